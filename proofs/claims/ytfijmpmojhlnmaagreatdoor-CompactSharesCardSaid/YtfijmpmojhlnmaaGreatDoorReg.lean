/-
  A region whose order is open: walked as its text stands. No program in sight.
-/
import Derived.Test.YtfijmpmojhlnmaaGreatDoorSt
namespace Go.Proofs.YtfijmpmojhlnmaaGreatDoor
open Go.RowKit

/-- For each operation the operations ahead of it, as bits. -/
def bf : List Oper → List Nat → List Nat
  | [], acc => acc
  | o :: r, acc => bf r (acc ++ [o.after.toList.foldl (fun s e => bif Region.binds .any e then s ||| (2 ^ e.on ||| acc.getD e.on 0) else s) 0])
theorem bf_fold {acc : List Nat} {L : Nat → Prop} (hacc : ∀ k, L k → ∀ j, (acc.getD k 0).testBit j = true → L j) :
    ∀ (es : List Edge) (s : Nat), (∀ e ∈ es, Region.binds .any e = true → L e.on) → (∀ j, s.testBit j = true → L j) → ∀ j, (es.foldl (fun s e => bif Region.binds .any e then s ||| (2 ^ e.on ||| acc.getD e.on 0) else s) s).testBit j = true → L j
  | [], s, _, hs => hs
  | e :: es, s, he, hs => by
    refine bf_fold hacc es _ (fun e' h' => he e' (by simp [h'])) ?_
    intro j hj
    cases hb : Region.binds .any e with
    | false =>
      simp only [hb, cond_false] at hj
      exact hs j hj
    | true =>
      simp only [hb, cond_true, Nat.testBit_or, Nat.testBit_two_pow, Bool.or_eq_true, decide_eq_true_eq] at hj
      have hon := he e (by simp) hb
      rcases hj with h | h | h
      · exact hs j h
      · subst h; exact hon
      · exact hacc _ hon j h
theorem bf_spec {L : Nat → Prop} : ∀ (ops : List Oper) (acc : List Nat) (P0 : Nat → Prop),
    (∀ k, k < acc.length → P0 k → ∀ j, (acc.getD k 0).testBit j = true → L j) → (∀ k, L k → P0 k) → (∀ k o, ops[k]? = some o → P0 (acc.length + k) → ∀ e ∈ o.after, Region.binds .any e = true → L e.on) →
    ∀ k, P0 k → ∀ j, ((bf ops acc).getD k 0).testBit j = true → L j
  | [], acc, P0, h1, _, _ => by
    intro k hk j hj
    by_cases h : k < acc.length
    · exact h1 k h hk j hj
    · simp only [bf, List.getD_eq_getElem?_getD, List.getElem?_eq_none (by omega : acc.length ≤ k), Option.getD_none, Nat.zero_testBit] at hj
      cases hj
  | o :: r, acc, P0, h1, h2, h3 => by
    refine bf_spec r _ P0 ?_ h2 ?_
    · intro k hk hp j hj
      simp only [List.length_append, List.length_singleton] at hk
      by_cases h : k < acc.length
      · rw [List.getD_eq_getElem?_getD, List.getElem?_append_left h, ← List.getD_eq_getElem?_getD] at hj
        exact h1 k h hp j hj
      · have : k = acc.length := by omega
        subst this
        simp only [List.getD_eq_getElem?_getD, List.getElem?_append_right (Nat.le_refl _), Nat.sub_self, List.getElem?_cons_zero, Option.getD_some] at hj
        refine bf_fold (L := L) (acc := acc) ?_ o.after.toList 0 (fun e he hb => h3 0 o rfl (by simpa using hp) e (by simpa using he) hb) (by simp) j (by simpa [List.getD_eq_getElem?_getD] using hj)
        intro k hk j hj
        by_cases h : k < acc.length
        · exact h1 k h (h2 k hk) j hj
        · simp only [List.getD_eq_getElem?_getD, List.getElem?_eq_none (by omega : acc.length ≤ k), Option.getD_none, Nat.zero_testBit] at hj
          cases hj
    · intro k o' ho hp
      refine h3 (k + 1) o' (by simpa using ho) ?_
      simpa [Nat.add_assoc, Nat.add_comm 1 k] using hp
/-- The slots that an operation looks at: its operands and its guard's. -/
def looks (ops : Array Oper) (o : Oper) : List Nat := Oper.rd o ++ (match o.guard with
  | some (g, _) => (gslot ops g).toList
  | none => [])
def hasDst (o : Oper) (t : Nat) : Bool := match o.dst with
  | some d => Nat.beq d t
  | none => false
def pairOK (ms : List Nat) (o : Oper) (lk : List Nat) (i : Nat) (p : Oper) (j : Nat) : Bool := match p.dst with
  | none => true
  | some t => Nat.beq i j || (!hasDst o t && (!lk.elem t || (bif Nat.blt j i then (ms.getD i 0).testBit j else (ms.getD j 0).testBit i)))
/-- Slots: no two operations write the same; who reads one waits for its writer, or the writer waits for him. -/
def regOK (ops : Array Oper) : Bool :=
  let ms := bf ops.toList []
  let all := ops.toList.zipIdx
  all.all fun (o, i) => (o.after.toList.all fun e => !Region.binds .any e || Nat.blt e.on i) && (let lk := looks ops o; all.all fun (p, j) => pairOK ms o lk i p j)
structure RegOK (ops : Array Oper) : Prop where
  edge : ∀ (i : Nat) (o : Oper), ops[i]? = some o → ∀ e ∈ o.after, Region.binds .any e = true → e.on < i
  two : ∀ (i j : Nat) (o p : Oper) (t : Nat), ops[i]? = some o → ops[j]? = some p → p.dst = some t → i ≠ j → o.dst ≠ some t
  look : ∀ (i j : Nat) (o p : Oper) (t : Nat), ops[i]? = some o → ops[j]? = some p → p.dst = some t → i ≠ j → t ∈ looks ops o → if j < i then ((bf ops.toList []).getD i 0).testBit j = true else ((bf ops.toList []).getD j 0).testBit i = true
theorem mem_zip {ops : Array Oper} {o : Oper} {i : Nat} (h : ops[i]? = some o) : (o, i) ∈ ops.toList.zipIdx := by
  rw [List.mem_zipIdx_iff_getElem?]
  simpa using h
theorem regOK.out {ops : Array Oper} (h : regOK ops = true) : RegOK ops := by
  unfold regOK at h
  simp only [List.all_eq_true, Bool.and_eq_true] at h
  have key : ∀ (i j : Nat) (o p : Oper) (t : Nat), ops[i]? = some o → ops[j]? = some p → p.dst = some t → i ≠ j → hasDst o t = false ∧ (t ∈ looks ops o → (bif Nat.blt j i then ((bf ops.toList []).getD i 0).testBit j else ((bf ops.toList []).getD j 0).testBit i) = true) := by
    intro i j o p t ho hp ht hne
    have := (h _ (mem_zip ho)).2 _ (mem_zip hp)
    unfold pairOK at this
    rw [ht] at this
    have hb : Nat.beq i j = false := by
      cases e : Nat.beq i j with
      | false => rfl
      | true => exact absurd (Nat.eq_of_beq_eq_true e) hne
    simp only [hb, Bool.false_or, Bool.and_eq_true, Bool.or_eq_true, Bool.not_eq_true'] at this
    refine ⟨this.1, fun hm => ?_⟩
    rcases this.2 with h | h
    · exact absurd (List.elem_eq_true_of_mem hm) (by rw [h]; simp)
    · exact h
  refine ⟨?_, ?_, ?_⟩
  · intro i o ho e he hb
    have := (h _ (mem_zip ho)).1 e (by simpa using he)
    simp only [hb, Bool.not_true, Bool.false_or, Nat.blt_eq] at this
    exact this
  · intro i j o p t ho hp ht hne e
    have := (key i j o p t ho hp ht hne).1
    unfold hasDst at this
    rw [e] at this
    simp at this
  · intro i j o p t ho hp ht hne hm
    have := (key i j o p t ho hp ht hne).2 hm
    by_cases hlt : j < i
    · rw [if_pos hlt]
      have e : Nat.blt j i = true := by rw [Nat.blt_eq]; exact hlt
      rwa [e] at this
    · rw [if_neg hlt]
      have e : Nat.blt j i = false := by
        cases h : Nat.blt j i with
        | false => rfl
        | true => rw [Nat.blt_eq] at h; exact absurd h hlt
      rwa [e] at this
def meets (l k : List Nat) : Bool := l.any fun x => k.elem x
theorem meets_of {l k : List Nat} {x : Nat} (h1 : x ∈ l) (h2 : x ∈ k) : meets l k = true := List.any_eq_true.2 ⟨x, h1, List.elem_eq_true_of_mem h2⟩
/-- Blocks: of two steps of which one writes what the other reads or writes, one waits for the other; who wants a block's address, or speaks of a block, waits for its making. -/
def okI (ms : List Nat) (acc : List Inf) : Bool :=
  acc.zipIdx.all fun (b, j) => acc.zipIdx.all fun (a, i) =>
    (!Nat.blt i j || (ms.getD j 0).testBit i || !(meets a.W b.W || meets a.W b.R || meets a.R b.W || meets a.nw.toList b.X || meets a.nw.toList b.W)) &&
    (Nat.beq i j || !meets b.nw.toList a.rf || (ms.getD i 0).testBit j)
structure OkI (ms : List Nat) (I : Nat → Inf) (n : Nat) : Prop where
  c : ∀ i j, i < j → j < n → (meets (I i).W (I j).W || meets (I i).W (I j).R || meets (I i).R (I j).W || meets (I i).nw.toList (I j).X || meets (I i).nw.toList (I j).W) = true → (ms.getD j 0).testBit i = true
  n : ∀ i j, i ≠ j → i < n → j < n → meets (I j).nw.toList (I i).rf = true → (ms.getD i 0).testBit j = true
theorem okI.out {ms : List Nat} {acc : List Inf} (h : okI ms acc = true) (I : Nat → Inf) (hI : ∀ i, i < acc.length → acc[i]? = some (I i)) : OkI ms I acc.length := by
  unfold okI at h
  simp only [List.all_eq_true] at h
  have mem : ∀ i, i < acc.length → (I i, i) ∈ acc.zipIdx := fun i hi => by rw [List.mem_zipIdx_iff_getElem?]; exact hI i hi
  refine ⟨fun i j hij hj hc => ?_, fun i j hne hi hj hc => ?_⟩
  · have := h _ (mem j hj) _ (mem i (by omega))
    have hb : Nat.blt i j = true := by rw [Nat.blt_eq]; exact hij
    simp only [hb, Bool.not_true, Bool.false_or, hc, Bool.or_false, Bool.and_eq_true] at this
    exact this.1
  · have := h _ (mem j hj) _ (mem i hi)
    have hb : Nat.beq i j = false := by
      cases e : Nat.beq i j with
      | false => rfl
      | true => exact absurd (Nat.eq_of_beq_eq_true e) hne
    simp only [hb, hc, Bool.not_true, Bool.false_or, Bool.and_eq_true] at this
    exact this.2

section
variable {P : Program} {C : Cx} {ops : Array Oper} {fin : List Inf → Prop} {Q : AS → Prop} {σ : AS}
theorem get?_app {α : Type} (W O : List (Nat × α)) (id : Nat) : get? (W ++ O) id = match get? W id with
    | some o => some o
    | none => get? O id := by
  induction W with
  | nil => simp [get?]
  | cons x r ih =>
    obtain ⟨k, v⟩ := x
    rw [List.cons_append, get?_cons, get?_cons]
    by_cases e : k = id
    · rw [if_pos e, if_pos e]
    · rw [if_neg e, if_neg e, ih]
theorem St.like {σ σ' : AS} {a : Act} {w : World} (h : St C σ' a w) (ho : ∀ id, get? σ'.objs id = get? σ.objs id) (he : ∀ t v, get? σ.env t = some v → get? σ'.env t = some v) : St C σ a w := by
  obtain ⟨β, hi⟩ := h
  have hD : ∀ b, Dat C β σ'.objs w b → Dat C β σ.objs w b ∧ w.heap[b]? = w.heap[b]? := fun b hb => ⟨⟨hb.1, hb.2.1, fun id o h => hb.2.2 id o (by rw [ho]; exact h)⟩, rfl⟩
  have hA : ∀ {u : Value} {x : AV}, RA (Dat C β σ'.objs w) w β σ'.objs u x → RA (Dat C β σ.objs w) w β σ.objs u x := fun h =>
    h.keep hD (fun id T cs h => ⟨⟨T, cs, by rw [ho]; exact h⟩, rfl⟩) (fun id g e k xs h => ⟨g, e, k, xs, by rw [ho]; exact h, Nat.le_refl _, fun _ => ⟨rfl, rfl⟩⟩)
  refine ⟨β, hi.defs, hi.nt, hi.os, hi.tape, hi.output, hi.size, hi.fr, fun t v ht => ?_, fun id o hid => ?_, fun i j oi oj b h1 h2 => hi.dis i j oi oj b (by rw [ho]; exact h1) (by rw [ho]; exact h2), fun i oi b h1 => hi.own i oi b (by rw [ho]; exact h1), fun i x o h1 h2 => hi.pin i x o h1 (by rw [ho]; exact h2)⟩
  · obtain ⟨u, h1, h2⟩ := hi.env t v (he t v ht)
    exact ⟨u, h1, hA h2⟩
  · have := hi.obj id o (by rw [ho]; exact hid)
    cases o with
    | box T cs =>
      obtain ⟨b, us, h1, h2, h3, h4, h5⟩ := this
      exact ⟨b, us, h1, h2, h3, h4, fun i h h' => hA (h5 i h h')⟩
    | row g e k xs =>
      obtain ⟨css, h1, h2, h3, h4⟩ := this
      exact ⟨css, h1, fun i h h' => (h2 i h h').mono fun b hb => (hD b hb).1, h3, h4⟩
    | dead => trivial
    | own x R => exact ⟨this.1, this.2.2 _ _ _ _ this.2.1 hD fun b _ => rfl, this.2.2⟩
def StepOK (P : Program) (C : Cx) (ops : Array Oper) (o : Oper) (τ : AS) (v : AV) (f : Fx) : Prop :=
  ((o.guard = none ∨ ∃ g b, o.guard = some (g, b) ∧ isB τ (gslot ops g) b) ∧ Do P C o τ v f ∧ kindB τ f = true ∧ newOK τ f = true) ∨ (∃ g b, o.guard = some (g, b) ∧ notB τ (gslot ops g) b ∧ v = .t [] ∧ f = {})
/-- What a chain in open order says of each operation. -/
theorem Chain.steps : ∀ (d k : Nat) (l : List Oper) (σ : AS) (acc : List Inf), ops.size = k + d → acc.length = k → Chain P C ops fin Q (some acc) l σ → l = ops.toList.drop k → ∃ (vs : Nat → AV) (fs : Nat → Fx) (τ : Nat → AS) (tot : List Inf), τ k = σ ∧
    (∀ i, k ≤ i → i < ops.size → ∃ o, ops[i]? = some o ∧ StepOK P C ops o (τ i) (vs i) (fs i) ∧ τ (i + 1) = (τ i).upd o.dst (vs i) (fs i).W) ∧ Q (τ ops.size) ∧ fin tot ∧ tot.length = ops.size ∧ (∀ i, i < k → tot[i]? = acc[i]?) ∧ (∀ i, k ≤ i → i < ops.size → tot[i]? = some (infOf (vs i) (fs i))) := by
  intro d
  induction d with
  | zero =>
    intro k l σ acc hk hacc h hl
    have hnil : l = [] := by rw [hl]; simp; omega
    subst hnil
    generalize hm : some acc = m at h
    cases h with
    | nil hfin h =>
      have e : ops.size = k := by omega
      exact ⟨fun _ => .un, fun _ => {}, fun _ => σ, acc, rfl, fun i h1 h2 => by omega, h, hfin acc hm.symm, by omega, fun i _ => rfl, fun i h1 h2 => by omega⟩
    | weak => cases hm
    | any => cases hm
  | succ d ih =>
    intro k l σ acc hk hacc h hl
    have hlen : l.length = ops.size - k := by rw [hl, List.length_drop, Array.length_toList]
    have nxt : ∀ (o : Oper) (rest : List Oper), l = o :: rest → rest = ops.toList.drop (k + 1) ∧ ops[k]? = some o := by
      intro o rest he
      refine ⟨?_, ?_⟩
      · rw [← List.drop_drop, ← hl, he]; rfl
      · have : (ops.toList.drop k)[0]? = some o := by rw [← hl, he]; rfl
        rw [List.getElem?_drop] at this
        simpa using this
    have more : ∀ (o : Oper) (rest : List Oper) (v : AV) (f : Fx), l = o :: rest → StepOK P C ops o σ v f → Chain P C ops fin Q (some (acc ++ [infOf v f])) rest (σ.upd o.dst v f.W) →
        ∃ (vs : Nat → AV) (fs : Nat → Fx) (τ : Nat → AS) (tot : List Inf), τ k = σ ∧
    (∀ i, k ≤ i → i < ops.size → ∃ o, ops[i]? = some o ∧ StepOK P C ops o (τ i) (vs i) (fs i) ∧ τ (i + 1) = (τ i).upd o.dst (vs i) (fs i).W) ∧ Q (τ ops.size) ∧ fin tot ∧ tot.length = ops.size ∧ (∀ i, i < k → tot[i]? = acc[i]?) ∧ (∀ i, k ≤ i → i < ops.size → tot[i]? = some (infOf (vs i) (fs i))) := by
      intro o rest v f he hok hch
      obtain ⟨h1, h2⟩ := nxt o rest he
      obtain ⟨vs, fs, τ, tot, q1, q3, q4, q5, q6, q7, q8⟩ := ih (k + 1) rest _ _ (by omega) (by simp [hacc]) hch h1
      refine ⟨fun i => if i = k then v else vs i, fun i => if i = k then f else fs i, fun i => if i = k then σ else τ i, tot, by simp, fun i hi him => ?_, ?_, q5, q6, fun i hi => ?_, fun i hi him => ?_⟩
      · by_cases e : i = k
        · subst e
          exact ⟨o, h2, by simpa using hok, by simpa using q1⟩
        · obtain ⟨o', r1, r2, r3⟩ := q3 i (by omega) him
          refine ⟨o', r1, by simpa [e] using r2, ?_⟩
          have e2 : i + 1 ≠ k := by omega
          simpa [e, e2] using r3
      · have e : ops.size ≠ k := by omega
        simpa [e] using q4
      · rw [q7 i (by omega), List.getElem?_append_left (by omega)]
      · by_cases e : i = k
        · subst e
          rw [q7 i (by omega), List.getElem?_append_right (by omega)]
          simp [hacc]
        · simpa [e] using q8 i (by omega) him
    generalize hm : some acc = m at h
    cases h with
    | nil => simp at hlen; omega
    | step v f hg h hkd hn hch => subst hm; exact more _ _ v f rfl (.inl ⟨hg, h, hkd, hn⟩) hch
    | off g b hg hb hch => subst hm; exact more _ _ (.t []) {} rfl (.inr ⟨g, b, hg, hb, rfl, rfl⟩) hch
    | weak => cases hm
    | any => cases hm
    | eff => cases hm
/-- What is known when just the operations of L have been carried out. -/
structure Sees (σ : AS) (ops : Array Oper) (vs : Nat → AV) (fs : Nat → Fx) (L : Nat → Prop) (σ' : AS) : Prop where
  hit : ∀ i o t, ops[i]? = some o → o.dst = some t → L i → get? σ'.env t = some (vs i)
  miss : ∀ t, (∀ i o, ops[i]? = some o → L i → o.dst ≠ some t) → get? σ'.env t = get? σ.env t
  ohit : ∀ i id ob, i < ops.size → L i → get? (fs i).W id = some ob → (∀ j, i < j → j < ops.size → L j → get? (fs j).W id = none) → get? σ'.objs id = some ob
  omiss : ∀ id, (∀ i, i < ops.size → L i → get? (fs i).W id = none) → get? σ'.objs id = get? σ.objs id
theorem Sees.start (σ : AS) (ops : Array Oper) (vs : Nat → AV) (fs : Nat → Fx) (L : Nat → Prop) (hL : ∀ i, ¬ L i) : Sees σ ops vs fs L σ := ⟨fun i _ _ _ _ h => absurd h (hL i), fun _ _ => rfl, fun i _ _ _ h => absurd h (hL i), fun _ _ => rfl⟩
theorem upd_env (σ : AS) (d : Option Nat) (v : AV) (W : List (Nat × AO)) (t : Nat) : get? (σ.upd d v W).env t = if d = some t then some v else get? σ.env t := by
  cases d with
  | none => simp [AS.upd, AS.put]
  | some d =>
    simp only [AS.upd, AS.put, get?_cons, Option.some.injEq]
/-- .. and one more; those behind it that write the same block have not come up. -/
theorem Sees.step {vs : Nat → AV} {fs : Nat → Fx} {L L' : Nat → Prop} {σ' : AS} (hok : RegOK ops) (h : Sees σ ops vs fs L σ') {i : Nat} {o : Oper} (ho : ops[i]? = some o) (hL : ∀ j, L' j ↔ (L j ∨ j = i))
    (hw : ∀ id ob, get? (fs i).W id = some ob → ∀ j, i < j → j < ops.size → L j → get? (fs j).W id = none) : Sees σ ops vs fs L' (σ'.upd o.dst (vs i) (fs i).W) := by
  have hi : i < ops.size := (Array.getElem?_eq_some_iff.1 ho).1
  refine ⟨fun j p t hp ht hl => ?_, fun t hm => ?_, fun k id ob hk hl hW hlast => ?_, fun id hm => ?_⟩
  · rw [upd_env]
    by_cases e : j = i
    · subst e
      rw [ho] at hp
      injection hp with hp
      subst hp
      rw [if_pos ht]
    · have h1 : L j := ((hL j).1 hl).resolve_right e
      rw [if_neg (hok.two i j o p t ho hp ht (Ne.symm e))]
      exact h.hit j p t hp ht h1
  · rw [upd_env, if_neg (hm i o ho ((hL i).2 (.inr rfl)))]
    exact h.miss t (fun j p hp hl => hm j p hp ((hL j).2 (.inl hl)))
  · show get? ((fs i).W ++ σ'.objs) id = _
    rw [get?_app]
    cases e : get? (fs i).W id with
    | some ob' =>
      by_cases e2 : k = i
      · subst e2; rw [e] at hW; exact hW
      · have hLk : L k := ((hL k).1 hl).resolve_right e2
        rcases Nat.lt_or_ge k i with h1 | h1
        · have := hlast i h1 hi ((hL i).2 (.inr rfl))
          rw [e] at this; cases this
        · have := hw id ob' e k (by omega) hk hLk
          rw [hW] at this; cases this
    | none =>
      have e2 : k ≠ i := fun e2 => by subst e2; rw [e] at hW; cases hW
      exact h.ohit k id ob hk (((hL k).1 hl).resolve_right e2) hW (fun j h1 h2 h3 => hlast j h1 h2 ((hL j).2 (.inl h3)))
  · show get? ((fs i).W ++ σ'.objs) id = _
    rw [get?_app, hm i hi ((hL i).2 (.inr rfl))]
    exact h.omiss id (fun j hj hl => hm j hj ((hL j).2 (.inl hl)))
/-- The last of some numbers. -/
theorem last_of {p : Nat → Prop} : ∀ (n : Nat), (∀ i, i < n → ¬ p i) ∨ ∃ i, i < n ∧ p i ∧ ∀ j, i < j → j < n → ¬ p j
  | 0 => .inl fun i h => absurd h (by omega)
  | n + 1 => by
    by_cases hp : p n
    · exact .inr ⟨n, by omega, hp, fun j h1 h2 => by omega⟩
    · rcases last_of (p := p) n with h | ⟨i, h1, h2, h3⟩
      · exact .inl fun i hi => by
          by_cases e : i = n
          · subst e; exact hp
          · exact h i (by omega)
      · exact .inr ⟨i, by omega, h2, fun j h4 h5 => by
          by_cases e : j = n
          · subst e; exact hp
          · exact h3 j h4 (by omega)⟩
theorem first_of {p : Nat → Prop} : ∀ (n : Nat), (∀ i, i < n → ¬ p i) ∨ ∃ i, i < n ∧ p i ∧ ∀ j, j < i → ¬ p j
  | 0 => .inl fun i h => absurd h (by omega)
  | n + 1 => by
    rcases first_of (p := p) n with h | ⟨i, h1, h2, h3⟩
    · by_cases hp : p n
      · exact .inr ⟨n, by omega, hp, h⟩
      · exact .inl fun i hi => by
          by_cases e : i = n
          · subst e; exact hp
          · exact h i (by omega)
    · exact .inr ⟨i, by omega, h2, h3⟩
/-- What a block holds depends on who has written it. -/
theorem Sees.same {vs : Nat → AV} {fs : Nat → Fx} {L L' : Nat → Prop} {σ1 σ2 : AS} (h1 : Sees σ ops vs fs L σ1) (h2 : Sees σ ops vs fs L' σ2) (id : Nat) (h : ∀ i ob, i < ops.size → get? (fs i).W id = some ob → (L i ↔ L' i)) : get? σ1.objs id = get? σ2.objs id := by
  rcases last_of (p := fun i => L i ∧ ∃ ob, get? (fs i).W id = some ob) ops.size with hn | ⟨i, hi, ⟨hl, ob, hw⟩, hlast⟩
  · have none_of : ∀ i, (¬ ∃ ob, get? (fs i).W id = some ob) → get? (fs i).W id = none := fun i hi => by
      cases e : get? (fs i).W id with
      | none => rfl
      | some ob => exact absurd ⟨ob, e⟩ hi
    rw [h1.omiss id (fun i hi hl => none_of i fun hx => hn i hi ⟨hl, hx⟩), h2.omiss id (fun i hi hl => none_of i fun hx => by
      obtain ⟨ob, hw⟩ := hx
      exact hn i hi ⟨(h i ob hi hw).2 hl, ob, hw⟩)]
  · have none_of : ∀ j, i < j → j < ops.size → L j → get? (fs j).W id = none := fun j h3 h4 h5 => by
      cases e : get? (fs j).W id with
      | none => rfl
      | some ob' => exact absurd ⟨h5, ob', e⟩ (hlast j h3 h4)
    rw [h1.ohit i id ob hi hl hw none_of, h2.ohit i id ob hi ((h i ob hi hw).1 hl) hw (fun j h3 h4 h5 => by
      cases e : get? (fs j).W id with
      | none => rfl
      | some ob' => exact absurd ⟨(h j ob' h4 e).2 h5, ob', e⟩ (hlast j h3 h4))]
def Closed (ops : Array Oper) (L : Nat → Prop) : Prop := ∀ k o, ops[k]? = some o → L k → ∀ e ∈ o.after, Region.binds .any e = true → L e.on
theorem Closed.bits {L : Nat → Prop} (h : Closed ops L) {i : Nat} {o : Oper} (ho : ops[i]? = some o) (hi : ∀ e ∈ o.after, Region.binds .any e = true → L e.on) : ∀ j, ((bf ops.toList []).getD i 0).testBit j = true → L j := by
  refine bf_spec ops.toList [] (fun k => L k ∨ k = i) (fun k hk => absurd hk (by simp)) (fun k hk => .inl hk) (fun k p hp hk => ?_) i (.inr rfl)
  have hp' : ops[k]? = some p := by simpa using hp
  rcases hk with hk | hk
  · exact h k p hp' (by simpa using hk)
  · have : k = i := by simpa using hk
    subst this
    rw [ho] at hp'
    injection hp' with hp'
    subst hp'
    exact hi
abbrev lst (listed : Array Bool) : Nat → Prop := fun i => listed.getD i false = true
theorem lst_set {listed : Array Bool} {i : Nat} (hi : i < listed.size) : ∀ j, lst (listed.setIfInBounds i true) j ↔ (lst listed j ∨ j = i) := by
  intro j
  simp only [lst, Array.getD_eq_getD_getElem?]
  by_cases e : i = j
  · subst e
    simp [Array.getElem?_setIfInBounds_self_of_lt hi]
  · rw [Array.getElem?_setIfInBounds_ne e]
    constructor
    · exact fun h => .inl h
    · rintro (h | h)
      · exact h
      · exact absurd h.symm e
theorem unl_set {listed : Array Bool} {i fuel : Nat} (hi : listed.getD i true = false) (hf : listed.toList.count false ≤ fuel + 1) : (listed.setIfInBounds i true).toList.count false ≤ fuel := by
  have hlt : i < listed.toList.length := by
    rcases Nat.lt_or_ge i listed.size with h | h
    · simpa using h
    · simp [Array.getD_eq_getD_getElem?, Array.getElem?_eq_none h] at hi
  rw [Array.toList_setIfInBounds, List.count_set hlt]
  have : listed.toList[i] = false := by
    have h' : i < listed.size := by simpa using hlt
    simpa [Array.getD_eq_getD_getElem?, Array.getElem?_eq_getElem h'] using hi
  simp only [this, BEq.rfl, if_true]
  have hb : (true == false) = false := rfl
  rw [hb, if_neg (by simp)]
  omega
theorem ready_none {listed : Array Bool} (h : listed.toList.count false = 0) : Region.ready .any ops listed = [] := by
  refine List.eq_nil_iff_forall_not_mem.2 fun j hj => ?_
  have h1 := (mem_ready.1 hj).1
  rw [List.count_eq_zero] at h
  have hlt : j < listed.size := by
    rcases Nat.lt_or_ge j listed.size with h | h
    · exact h
    · simp [Array.getD_eq_getD_getElem?, Array.getElem?_eq_none h] at h1
  refine h ?_
  have : listed[j] = false := by simpa [Array.getD_eq_getD_getElem?, Array.getElem?_eq_getElem hlt] using h1
  rw [← this]
  simp
/-- The first that has not been carried out may come up. -/
theorem ready_some {listed : Array Bool} (hsz : listed.size = ops.size) (hedge : ∀ i o, ops[i]? = some o → ∀ e ∈ o.after, Region.binds .any e = true → e.on < i) (h : Region.ready .any ops listed = []) : ∀ i, i < ops.size → lst listed i := by
  intro i
  induction i using Nat.strongRecOn with
  | _ i ih =>
    intro hi
    cases hl : listed.getD i true with
    | true =>
      have hlt : i < listed.size := by omega
      simpa [lst, Array.getD_eq_getD_getElem?, Array.getElem?_eq_getElem hlt] using hl
    | false =>
      have : i ∈ Region.ready .any ops listed := mem_ready.2 ⟨hl, ops[i], Array.getElem?_eq_getElem hi, fun e he hb => by
        have := hedge i _ (Array.getElem?_eq_getElem hi) e he hb
        exact ih e.on this (by omega)⟩
      rw [h] at this
      cases this
theorem noRef.less {σ : AS} {d : Option Nat} {v : AV} {W : List (Nat × AO)} {x : Nat} (h : noRef (σ.upd d v W) x = true) : noRef σ x = true := by
  unfold noRef at h ⊢
  rw [Bool.and_eq_true, List.all_eq_true, List.all_eq_true] at h ⊢
  refine ⟨fun y hy => h.1 y ?_, fun y hy => h.2 y (List.mem_append_right _ hy)⟩
  cases d with
  | none => exact hy
  | some d => exact List.mem_cons_of_mem _ hy
theorem w_mem {W : List (Nat × AO)} {id : Nat} {ob : AO} (h : get? W id = some ob) : id ∈ W.map (·.1) := List.mem_map.2 ⟨_, get?_mem h, rfl⟩
/-- **In whatever order.** -/
theorem loc_any {Q : Exit → AS → Prop} {vs : Nat → AV} {fs : Nat → Fx} {τ : Nat → AS} (hok : RegOK ops) (hI : OkI (bf ops.toList []) (fun i => infOf (vs i) (fs i)) ops.size) (hnt : ∀ (i : Nat) (o : Oper), ops[i]? = some o → dstOK C.nt o = true)
    (hst : ∀ i, i < ops.size → ∃ o, ops[i]? = some o ∧ StepOK P C ops o (τ i) (vs i) (fs i) ∧ τ (i + 1) = (τ i).upd o.dst (vs i) (fs i).W)
    (hQ : Q .normal (τ ops.size)) :
    ∀ (fuel : Nat) (listed : Array Bool) (σ' : AS) (a : Act) (w : World), listed.size = ops.size → Closed ops (lst listed) → listed.toList.count false ≤ fuel → Sees (τ 0) ops vs fs (lst listed) σ' → St C σ' a w →
      wpAny P .any ops (liftQ C Q) fuel listed a w := by
  have htext : ∀ i, i ≤ ops.size → Sees (τ 0) ops vs fs (fun j => j < i) (τ i) := by
    intro i
    induction i with
    | zero => exact fun _ => Sees.start _ _ _ _ _ (by simp)
    | succ i ih =>
      intro hi
      obtain ⟨o, ho, _, he⟩ := hst i (by omega)
      rw [he]
      exact (ih (by omega)).step hok ho (fun j => by omega) (fun _ _ _ j h1 _ h2 => by omega)
  have hback : ∀ i x, i ≤ ops.size → noRef (τ i) x = true → noRef (τ 0) x = true := by
    intro i x
    induction i with
    | zero => exact fun _ h => h
    | succ i ih =>
      intro hi h
      obtain ⟨o, ho, _, he⟩ := hst i (by omega)
      rw [he] at h
      exact ih (by omega) (noRef.less h)
  have hkind2 : ∀ j, j < ops.size → ∀ id ob, get? (fs j).W id = some ob → ∀ ob2, get? (τ j).objs id = some ob2 → isBox ob = isBox ob2 := by
    intro j hj id ob hw ob2 h2
    obtain ⟨p, hp, hstp, he⟩ := hst j hj
    rcases hstp with ⟨_, _, hkd, hn⟩ | ⟨_, _, _, _, _, hf⟩
    · unfold kindB at hkd
      have h5 := List.all_eq_true.1 hkd _ (get?_mem hw)
      simp only [Bool.or_eq_true] at h5
      rcases h5 with h5 | h5
      · cases en : (fs j).nw with
        | none => rw [en] at h5; cases h5
        | some d =>
          rw [en] at h5
          have := Nat.eq_of_beq_eq_true h5
          subst this
          exact absurd rfl ((newOK.out hn _ en).obj _ _ h2).1
      · rw [h2] at h5
        have h6 : isBox ob2 = isBox ob := by simpa using h5
        exact h6.symm
    · rw [hf] at hw; simp [get?] at hw
  have hpres : ∀ k k', k ≤ k' → k' ≤ ops.size → ∀ id ob, get? (τ k).objs id = some ob → ∃ ob2, get? (τ k').objs id = some ob2 ∧ isBox ob2 = isBox ob := by
    intro k k' hkk
    induction k' with
    | zero =>
      intro _ id ob h
      have : k = 0 := by omega
      subst this; exact ⟨ob, h, rfl⟩
    | succ k' ihk =>
      intro hk' id ob h
      by_cases e : k = k' + 1
      · subst e; exact ⟨ob, h, rfl⟩
      · obtain ⟨ob2, h2, h3⟩ := ihk (by omega) (by omega) id ob h
        obtain ⟨p, hp, hstp, he⟩ := hst k' (by omega)
        rw [he]
        simp only [AS.upd, get?_app]
        cases ew : get? (fs k').W id with
        | none => exact ⟨ob2, h2, h3⟩
        | some ob' => exact ⟨ob', rfl, (hkind2 k' (by omega) id ob' ew ob2 h2).trans h3⟩
  have hfinal : ∀ (listed : Array Bool) (σ' : AS) (a : Act) (w : World), (∀ i, i < ops.size → lst listed i) → Sees (τ 0) ops vs fs (lst listed) σ' → St C σ' a w → liftQ C Q .normal a w := by
    intro listed σ' a w hall hsee hs
    refine ⟨_, hQ, hs.like (fun id => hsee.same (htext _ (Nat.le_refl _)) id fun i ob hi _ => ⟨fun _ => hi, fun _ => hall i hi⟩) fun t v hv => ?_⟩
    by_cases hex : ∃ (i : Nat) (o : Oper), ops[i]? = some o ∧ o.dst = some t
    · obtain ⟨i, o, ho, hd⟩ := hex
      have hi := (Array.getElem?_eq_some_iff.1 ho).1
      rw [(htext _ (Nat.le_refl _)).hit i o t ho hd hi] at hv
      rw [hsee.hit i o t ho hd (hall i hi), hv]
    · rw [(htext _ (Nat.le_refl _)).miss t (fun i o ho _ hd => hex ⟨i, o, ho, hd⟩)] at hv
      rw [hsee.miss t (fun i o ho _ hd => hex ⟨i, o, ho, hd⟩), hv]
  intro fuel
  induction fuel with
  | zero =>
    intro listed σ' a w hsz hcl hf hsee hs
    have hr := ready_none (ops := ops) (Nat.le_zero.1 hf)
    exact ⟨hr, hfinal listed σ' a w (fun i hi => ready_some hsz hok.edge hr i hi) hsee hs⟩
  | succ fuel ih =>
    intro listed σ' a w hsz hcl hf hsee hs
    refine ⟨fun hr => hfinal listed σ' a w (fun i hi => ready_some hsz hok.edge hr i hi) hsee hs, fun i hi => ?_⟩
    obtain ⟨hun, o, ho, hedges⟩ := mem_ready.1 hi
    have hil : i < ops.size := (Array.getElem?_eq_some_iff.1 ho).1
    have hil' : i < listed.size := by omega
    have hnl : ¬ lst listed i := by
      simp only [lst]
      rw [Array.getD_eq_getD_getElem?, Array.getElem?_eq_getElem hil'] at hun ⊢
      simp at hun ⊢
      exact hun
    have hbits := hcl.bits ho hedges
    have hahead : ∀ j p, ops[j]? = some p → lst listed j → ((bf ops.toList []).getD j 0).testBit i = true → False := fun j p hp hj hb => hnl (hcl.bits hp (hcl j p hp hj) i hb)
    have hget : ∀ j, j < ops.size → ∃ p, ops[j]? = some p := fun j hj => ⟨_, Array.getElem?_eq_getElem hj⟩
    obtain ⟨o', ho', hstep, _⟩ := hst i hil
    rw [ho] at ho'
    injection ho' with ho'
    subst ho'
    have hte := htext i (by omega)
    have hlook : ∀ t, t ∈ looks ops o → get? σ'.env t = get? (τ i).env t := by
      intro t ht
      by_cases hex : ∃ (j : Nat) (p : Oper), ops[j]? = some p ∧ p.dst = some t
      · obtain ⟨j, p, hp, hd⟩ := hex
        have hj := (Array.getElem?_eq_some_iff.1 hp).1
        have huniq : ∀ k q, ops[k]? = some q → q.dst = some t → k = j := fun k q hq hqd => by
          by_cases e : k = j
          · exact e
          · exact absurd hqd (hok.two k j q p t hq hp hd e)
        by_cases e : i = j
        · subst e
          rw [hsee.miss t (fun k q hq hl hqd => hnl ((huniq k q hq hqd) ▸ hl)), hte.miss t (fun k q hq hl hqd => by have := huniq k q hq hqd; omega)]
        · have h1 := hok.look i j o p t ho hp hd e ht
          by_cases hlt : j < i
          · rw [if_pos hlt] at h1
            rw [hsee.hit j p t hp hd (hbits j h1), hte.hit j p t hp hd hlt]
          · rw [if_neg hlt] at h1
            have hjn : ¬ lst listed j := fun hjl => hahead j p hp hjl h1
            rw [hsee.miss t (fun k q hq hl hqd => hjn ((huniq k q hq hqd) ▸ hl)), hte.miss t (fun k q hq hl hqd => by have := huniq k q hq hqd; omega)]
      · rw [hsee.miss t (fun k q hq _ hqd => hex ⟨k, q, hq, hqd⟩), hte.miss t (fun k q hq _ hqd => hex ⟨k, q, hq, hqd⟩)]
    -- who writes a block that this step reads or writes: just those ahead of it
    have hwr : ∀ id, (id ∈ (fs i).R ∨ id ∈ (fs i).W.map (·.1)) → ∀ j ob, j < ops.size → get? (fs j).W id = some ob → j ≠ i → (lst listed j ↔ j < i) := by
      intro id hid j ob hj hw hne
      have hm : id ∈ (infOf (vs j) (fs j)).W := w_mem hw
      obtain ⟨p, hp⟩ := hget j hj
      rcases Nat.lt_or_ge j i with hlt | hge
      · refine ⟨fun _ => hlt, fun _ => hbits j (hI.c j i hlt hil ?_)⟩
        rcases hid with h | h
        · have := meets_of hm (show id ∈ (infOf (vs i) (fs i)).R from h); simp [this]
        · have := meets_of hm (show id ∈ (infOf (vs i) (fs i)).W from h); simp [this]
      · have hlt : i < j := by omega
        refine ⟨fun hjl => (hahead j p hp hjl (hI.c i j hlt hj ?_)).elim, fun h => by omega⟩
        rcases hid with h | h
        · have := meets_of (show id ∈ (infOf (vs i) (fs i)).R from h) hm; simp [this]
        · have := meets_of (show id ∈ (infOf (vs i) (fs i)).W from h) hm; simp [this]
    have hlike : ∀ (_ : kindB (τ i) (fs i) = true), newOK (τ i) (fs i) = true → Like o (τ i) σ' (fs i) := by
      intro hkind hnew
      refine ⟨fun t ht v hv => .inr (by rw [hlook t (List.mem_append_left _ ht)]; exact hv), fun id hid => hsee.same hte id fun j ob hj hw => ?_, fun id hid T cs hb => ?_, fun d hd => ?_⟩
      · by_cases e : j = i
        · subst e; exact ⟨fun h => absurd h hnl, fun h => absurd h (by omega)⟩
        · exact hwr id (.inl hid) j ob hj hw e
      · -- the address of a box: it is there, whoever has written it
        have hbox : ∀ j ob, j < ops.size → get? (fs j).W id = some ob → isBox ob = true := by
          intro j ob hj hw
          rcases Nat.lt_or_ge j i with hlt | hge
          · obtain ⟨p, hp, hstp, he⟩ := hst j hj
            have h1 : get? (τ (j + 1)).objs id = some ob := by rw [he]; simp only [AS.upd, get?_app, hw]
            obtain ⟨ob2, h2, h3⟩ := hpres (j + 1) i (by omega) (by omega) id ob h1
            rw [hb] at h2
            injection h2 with h2
            subst h2
            exact h3.symm
          · obtain ⟨ob2, h2, h3⟩ := hpres i j hge (by omega) id _ hb
            exact (hkind2 j hj id ob hw ob2 h2).trans h3
        have some_box : ∀ ob, isBox ob = true → ∃ T' cs', ob = .box T' cs' := fun ob h => by
          cases ob with
          | box T' cs' => exact ⟨T', cs', rfl⟩
          | row => cases h
          | dead => cases h
          | own => cases h
        rcases last_of (p := fun j => lst listed j ∧ ∃ ob, get? (fs j).W id = some ob) ops.size with hn | ⟨j, hj, ⟨hjl, ob', hw⟩, hlast⟩
        · have h0 : get? σ'.objs id = get? (τ 0).objs id := hsee.omiss id (fun j hj hl => by
            cases e : get? (fs j).W id with
            | none => rfl
            | some ob => exact absurd ⟨hl, ob, e⟩ (hn j hj))
          rw [h0]
          rcases first_of (p := fun j => ∃ ob, get? (fs j).W id = some ob) i with hn2 | ⟨j, hj, ⟨ob, hw⟩, hfirst⟩
          · have := hte.omiss id (fun j hj hl => by
              cases e : get? (fs j).W id with
              | none => rfl
              | some ob => exact absurd ⟨ob, e⟩ (hn2 j hl))
            rw [← this]
            exact ⟨T, cs, hb⟩
          · have h1 : get? (τ j).objs id = get? (τ 0).objs id := (htext j (by omega)).omiss id (fun k hk hl => by
              cases e : get? (fs k).W id with
              | none => rfl
              | some ob => exact absurd ⟨ob, e⟩ (hfirst k hl))
            rw [← h1]
            obtain ⟨p, hp, hstp, he⟩ := hst j (by omega)
            rcases hstp with ⟨_, _, hkd, _⟩ | ⟨_, _, _, _, _, hf⟩
            · unfold kindB at hkd
              have h5 := List.all_eq_true.1 hkd _ (get?_mem hw)
              simp only [Bool.or_eq_true] at h5
              rcases h5 with h5 | h5
              · cases en : (fs j).nw with
                | none => rw [en] at h5; cases h5
                | some d =>
                  rw [en] at h5
                  have := Nat.eq_of_beq_eq_true h5
                  subst this
                  have hb2 := hI.c j i hj hil (by
                    have := meets_of (show id ∈ (infOf (vs j) (fs j)).nw.toList by show id ∈ (fs j).nw.toList; rw [en]; simp) (show id ∈ (infOf (vs i) (fs i)).X from hid)
                    simp [this])
                  exact absurd ⟨hbits j hb2, ob, hw⟩ (hn j (by omega))
              · cases eo : get? (τ j).objs id with
                | none => rw [eo] at h5; cases h5
                | some o2 =>
                  rw [eo] at h5
                  have h6 : isBox o2 = isBox ob := by simpa using h5
                  obtain ⟨T', cs', rfl⟩ := some_box o2 (by rw [h6]; exact hbox j ob (by omega) hw)
                  exact ⟨T', cs', rfl⟩
            · rw [hf] at hw; simp [get?] at hw
        · have := hsee.ohit j id ob' hj hjl hw (fun k h1 h2 h3 => by
            cases e : get? (fs k).W id with
            | none => rfl
            | some ob => exact absurd ⟨h3, ob, e⟩ (hlast k h1 h2))
          rw [this]
          obtain ⟨T', cs', rfl⟩ := some_box ob' (hbox j ob' hj hw)
          exact ⟨T', cs', rfl⟩
      · have hnr : noRef (τ i) d = true := by
          unfold newOK at hnew
          rw [hd] at hnew
          exact hnew
        have hn0 := noRef.out (hback i d (by omega) hnr)
        have hni := noRef.out hnr
        have hrf : ∀ j p, ops[j]? = some p → j ≠ i → lst listed j → d ∈ (infOf (vs j) (fs j)).rf → False := fun j p hp hne hjl hm =>
          hahead j p hp hjl (hI.n j i hne (Array.getElem?_eq_some_iff.1 hp).1 hil (meets_of (show d ∈ (infOf (vs i) (fs i)).nw.toList by show d ∈ (fs i).nw.toList; rw [hd]; simp) hm))
        refine ⟨fun t v ht => ?_, fun id ob hid => ?_⟩
        · by_cases hex : ∃ (j : Nat) (p : Oper), ops[j]? = some p ∧ lst listed j ∧ p.dst = some t
          · obtain ⟨j, p, hp, hjl, hd'⟩ := hex
            rw [hsee.hit j p t hp hd' hjl] at ht
            injection ht with ht
            subst ht
            cases er : refsA d (vs j) with
            | false => rfl
            | true => exact (hrf j p hp (fun e => hnl (e ▸ hjl)) hjl (List.mem_append_left _ (by unfold refsA at er; simpa using er))).elim
          · rw [hsee.miss t (fun j p hp hl hd' => hex ⟨j, p, hp, hl, hd'⟩)] at ht
            exact hn0.env t v ht
        · rcases last_of (p := fun j => lst listed j ∧ ∃ ob, get? (fs j).W id = some ob) ops.size with hn | ⟨j, hj, ⟨hjl, ob', hw⟩, hlast⟩
          · rw [hsee.omiss id (fun j hj hl => by
              cases e : get? (fs j).W id with
              | none => rfl
              | some ob => exact absurd ⟨hl, ob, e⟩ (hn j hj))] at hid
            exact hn0.obj id ob hid
          · rw [hsee.ohit j id ob' hj hjl hw (fun k h1 h2 h3 => by
              cases e : get? (fs k).W id with
              | none => rfl
              | some ob => exact absurd ⟨h3, ob, e⟩ (hlast k h1 h2))] at hid
            injection hid with hid
            subst hid
            obtain ⟨p, hp⟩ := hget j hj
            have hne : j ≠ i := fun e => hnl (e ▸ hjl)
            refine ⟨fun e => ?_, ?_⟩
            · subst e
              rcases Nat.lt_or_ge j i with hlt | hge
              · obtain ⟨p', hp', hstp, he⟩ := hst j hj
                have h1 : get? (τ (j + 1)).objs id = some ob' := by rw [he]; simp only [AS.upd, get?_app, hw]
                obtain ⟨ob2, h2, _⟩ := hpres (j + 1) i (by omega) (by omega) id ob' h1
                exact (hni.obj id ob2 h2).1 rfl
              · refine hahead j p hp hjl (hI.c i j (by omega) hj ?_)
                have := meets_of (show id ∈ (infOf (vs i) (fs i)).nw.toList by show id ∈ (fs i).nw.toList; rw [hd]; simp) (show id ∈ (infOf (vs j) (fs j)).W from w_mem hw)
                simp [this]
            · cases er : refsO d ob' with
              | false => rfl
              | true =>
                refine (hrf j p hp hne hjl (List.mem_append_right _ (List.mem_flatMap.2 ⟨_, get?_mem hw, ?_⟩))).elim
                unfold refsO at er
                simpa using er
    have hset := lst_set hil'
    have go : ∀ a' w', St C (σ'.upd o.dst (vs i) (fs i).W) a' w' → wpAny P .any ops (liftQ C Q) fuel (listed.setIfInBounds i true) a' w' := fun a' w' hs' => by
      refine ih _ _ a' w' (by simp [hsz]) (fun j p hp hj e he hb => ?_) (unl_set hun hf) (hsee.step hok ho hset (fun id ob hw j h1 h2 h3 => ?_)) hs'
      · rcases (hset j).1 hj with h | h
        · exact (hset _).2 (.inl (hcl j p hp h e he hb))
        · subst h
          rw [ho] at hp
          injection hp with hp
          subst hp
          exact (hset _).2 (.inl (hedges e he hb))
      · cases e : get? (fs j).W id with
        | none => rfl
        | some ob' => exact absurd ((hwr id (.inr (w_mem hw)) j ob' h2 e (by omega)).1 h3) (by omega)
    obtain ⟨β, hinv⟩ := id hs
    have hdst := hnt i o ho
    have hguard : ∀ g b, o.guard = some (g, b) → ∀ t, gslot ops g = some t → get? σ'.env t = get? (τ i).env t := fun g b hg t ht => hlook t (List.mem_append_right _ (by rw [hg]; simp [ht]))
    simp only [wpOp, ho]
    rcases hstep with ⟨hg, h, hkd, hn⟩ | ⟨g, b, hg, hb, hv, hf'⟩
    · have hrun := h _ (hlike hkd hn) hdst a w (wpAny P .any ops (liftQ C Q) fuel (listed.setIfInBounds i true)) (liftQ C Q) hs go
      rcases hg with hg | ⟨g, b, hg, hb⟩
      · rw [if_pos (by simp [Region.wanted, hg])]; exact .inl hrun
      · have hb' : isB σ' (gslot ops g) b := by
          unfold isB at hb ⊢
          cases hsl : gslot ops g with
          | none => rw [hsl] at hb; exact hb
          | some t =>
            rw [hsl] at hb
            simp only at hb ⊢
            rw [hguard g b hg t hsl]; exact hb
        rw [if_pos (by simp [Region.wanted, hg, hb'.yields hinv])]; exact .inl hrun
    · have hb' : notB σ' (gslot ops g) b := by
        unfold notB at hb ⊢
        cases hsl : gslot ops g with
        | none => rw [hsl] at hb; exact hb
        | some t =>
          rw [hsl] at hb
          simp only at hb ⊢
          rw [hguard g b hg t hsl]; exact hb
      rw [if_neg (by have := hb'.yields hinv; simp [Region.wanted, hg, this])]
      refine go _ _ ?_
      rw [hv, hf']
      exact ⟨β, hinv.offS _ (dstOK.out hdst)⟩
end

/-! ### code -/
/-- From whatever state that is told by σ the code comes to an end that is told by Q. -/
def AC (P : Program) (C : Cx) (c : Code) (Q : Exit → AS → Prop) (σ : AS) : Prop := ∀ a w, St C σ a w → c.wp P (liftQ C Q) a w
section
variable {P : Program} {C : Cx} {Q : Exit → AS → Prop} {σ : AS}
section
variable {w0 : World} {S0 : Nat → Prop} {M : List Value} {nt id : Nat} {l : List Oper}
def noFin : List Inf → Prop := fun _ => True
theorem Chain.mono {ops : Array Oper} {fin : List Inf → Prop} {K K' : AS → Prop} {m : Option (List Inf)} {l : List Oper} (h : Chain P C ops fin K m l σ) (hk : ∀ σ, K σ → K' σ) : Chain P C ops fin K' m l σ := by
  induction h with
  | nil hm h => exact .nil hm (hk _ h)
  | step v f hg h hkd hn _ ih => exact .step v f hg h hkd hn ih
  | off g b hg hb _ ih => exact .off g b hg hb ih
  | weak σ' h _ ih => exact .weak σ' h ih
  | any V h _ ih => exact .any V h ih
  | eff V hg h _ ih => exact .eff V hg h ih
theorem Chain.noGuard {ops : Array Oper} {fin : List Inf → Prop} {K : AS → Prop} {m : Option (List Inf)} {l : List Oper} (h : Chain P C #[] fin K m l σ) (hg : (l.all fun o => o.guard.isNone) = true) : Chain P C ops fin K m l σ := by
  induction h with
  | nil hm h => exact .nil hm h
  | @step m o rest σ v f hg' h hkd hn _ ih =>
    simp only [List.all_cons, Bool.and_eq_true] at hg
    refine .step v f (.inl ?_) h hkd hn (ih hg.2)
    simpa using hg.1
  | off g b hg' hb _ ih => simp [hg'] at hg
  | weak σ' h _ ih => exact .weak σ' h (ih hg)
  | any V h _ ih => exact .any V h fun σ' hv => ih σ' hv hg
  | eff V hg' h _ ih =>
    simp only [List.all_cons, Bool.and_eq_true] at hg
    exact .eff V hg' h fun σ' hv => ih σ' hv hg.2
/-- A region without guards; its end by a name. -/
theorem AC.reg (hd : (l.all fun o => dstOK nt o && o.guard.isNone) = true) (h : ∀ K : AS → Prop, (∀ σ, Q .normal σ → K σ) → Chain P ⟨w0, S0, M, nt⟩ #[] noFin K none l σ) : AC P ⟨w0, S0, M, nt⟩ (.region id l.toArray false) Q σ := fun a w hs => by
  have h1 : (l.all (dstOK nt)) = true := List.all_eq_true.2 fun o ho => by have := List.all_eq_true.1 hd o ho; rw [Bool.and_eq_true] at this; exact this.1
  have h2 : (l.all fun o => o.guard.isNone) = true := List.all_eq_true.2 fun o ho => by have := List.all_eq_true.1 hd o ho; rw [Bool.and_eq_true] at this; exact this.2
  exact wp_region_lit (((h _ fun _ h => h).noGuard h2).seq (fun o ho => List.all_eq_true.1 h1 o ho) a w hs)
theorem AC.regG (hd : (l.all (dstOK nt)) = true) (h : ∀ K : AS → Prop, (∀ σ, Q .normal σ → K σ) → Chain P ⟨w0, S0, M, nt⟩ l.toArray noFin K none l σ) : AC P ⟨w0, S0, M, nt⟩ (.region id l.toArray false) Q σ := fun a w hs =>
  wp_region_lit ((h _ fun _ h => h).seq (fun o ho => List.all_eq_true.1 hd o ho) a w hs)
def fin (ms : List Nat) : List Inf → Prop := fun acc => okI ms acc = true
theorem AC.drawnN (hm : P.follows .mixedOrders = true) (hok : regOK l.toArray = true) (hd : (l.all (dstOK nt)) = true) (h : Chain P ⟨w0, S0, M, nt⟩ l.toArray (fin (bf l [])) (Q .normal) (some []) l σ) : AC P ⟨w0, S0, M, nt⟩ (.region id l.toArray true) Q σ := by
  intro a w hs
  obtain ⟨vs, fs, τ, tot, h1, h3, h4, h5, h6, _, h8⟩ := Chain.steps l.toArray.size 0 l σ [] (by omega) rfl h (by simp)
  refine wp_region_any hm ?_
  have hnt : ∀ (i : Nat) (o : Oper), l.toArray[i]? = some o → dstOK nt o = true := fun i o ho => List.all_eq_true.1 hd o (List.mem_of_getElem? (by simpa using ho))
  subst h1
  obtain ⟨β, hi⟩ := hs
  have hx : Ext w { w with drawn := w.drawn + 1 } := ⟨rfl, rfl, rfl, Nat.le_refl _, fun _ _ => rfl⟩
  have hnone : ∀ i, ¬ lst (Array.replicate l.toArray.size false) i := fun i => by
    simp only [lst, Array.getD_eq_getD_getElem?, Array.getElem?_replicate]
    split <;> simp
  have hI := okI.out h5 (fun i => infOf (vs i) (fs i)) (fun i hi => h8 i (Nat.zero_le _) (by rw [← h6]; exact hi))
  rw [h6] at hI
  refine loc_any (regOK.out hok) (by simpa using hI) hnt (fun i hi => h3 i (Nat.zero_le _) hi) h4 _ _ (τ 0) a _ (by simp) (fun k o _ h => absurd h (hnone k)) ?_ (Sees.start _ _ _ _ _ hnone) ⟨β, hi.ext hx⟩
  refine Nat.le_trans List.count_le_length (by simp)
theorem AC.drw (hm : P.follows .mixedOrders = true) (hok : ((l.all fun o => dstOK nt o && o.guard.isNone) && regOK l.toArray) = true) (h : ∀ (K : AS → Prop) (ms : List Nat), ms = bf l [] → (∀ σ, Q .normal σ → K σ) → Chain P ⟨w0, S0, M, nt⟩ #[] (fin ms) K (some []) l σ) : AC P ⟨w0, S0, M, nt⟩ (.region id l.toArray true) Q σ := by
  simp only [Bool.and_eq_true] at hok
  have h1 : (l.all (dstOK nt)) = true := List.all_eq_true.2 fun o ho => by have := List.all_eq_true.1 hok.1 o ho; rw [Bool.and_eq_true] at this; exact this.1
  have h2 : (l.all fun o => o.guard.isNone) = true := List.all_eq_true.2 fun o ho => by have := List.all_eq_true.1 hok.1 o ho; rw [Bool.and_eq_true] at this; exact this.2
  exact AC.drawnN hm hok.2 h1 ((h _ _ rfl fun _ h => h).noGuard h2)
theorem AC.drwG (hm : P.follows .mixedOrders = true) (hok : ((l.all fun o => dstOK nt o) && regOK l.toArray) = true) (h : ∀ (K : AS → Prop) (ms : List Nat), ms = bf l [] → (∀ σ, Q .normal σ → K σ) → Chain P ⟨w0, S0, M, nt⟩ l.toArray (fin ms) K (some []) l σ) : AC P ⟨w0, S0, M, nt⟩ (.region id l.toArray true) Q σ := by
  simp only [Bool.and_eq_true] at hok
  exact AC.drawnN hm hok.2 hok.1 (h _ _ rfl fun _ h => h)
end
/-- The same code, from another state and to another end. -/
theorem AC.mono {c : Code} {Q' : Exit → AS → Prop} (h : AC P C c Q' σ) (hq : ∀ e σ, Q' e σ → Q e σ) : AC P C c Q σ := fun a w hs => Code.wp_mono (fun e _ _ ⟨σ, h1, h2⟩ => ⟨σ, hq e σ h1, h2⟩) (h a w hs)
def AThen (next : AS → Prop) (Q : Exit → AS → Prop) : Exit → AS → Prop
  | .normal, σ => next σ
  | e, σ => Q e σ
def ABlock (id : Nat) (Q : Exit → AS → Prop) : Exit → AS → Prop
  | .exit id', σ => bif Nat.beq id' id then Q .normal σ else Q (.exit id') σ
  | e, σ => Q e σ
theorem AC.seq {x y : Code} (h : AC P C x (AThen (AC P C y Q) Q) σ) : AC P C (.seq x y) Q σ := fun a w hs => by
  refine wp_seq (Code.wp_mono ?_ (h a w hs))
  rintro e a' w' ⟨σ', h1, h2⟩
  cases e with
  | normal => exact h1 a' w' h2
  | _ => exact ⟨σ', h1, h2⟩
theorem AC.skip (h : Q .normal σ) : AC P C .skip Q σ := fun _ _ hs => wp_skip ⟨σ, h, hs⟩
theorem AC.exit {id : Nat} (h : Q (.exit id) σ) : AC P C (.exit id) Q σ := fun _ _ hs => wp_exit ⟨σ, h, hs⟩
theorem AC.ret (h : Q .ret σ) : AC P C .ret Q σ := fun _ _ hs => wp_ret ⟨σ, h, hs⟩
theorem AC.block {id : Nat} {c : Code} (h : AC P C c (ABlock id Q) σ) : AC P C (.block id c) Q σ := fun a w hs => by
  refine wp_block (Code.wp_mono ?_ (h a w hs))
  rintro e a' w' ⟨σ', h1, h2⟩
  cases e with
  | exit id' =>
    simp only [Exit.inBlock]
    simp only [ABlock] at h1
    by_cases e : id' = id
    · subst e; rw [if_pos rfl]; simp at h1; exact ⟨σ', h1, h2⟩
    · have hb : Nat.beq id' id = false := by
        cases hb : Nat.beq id' id with
        | false => rfl
        | true => exact absurd (Nat.eq_of_beq_eq_true hb) e
      rw [if_neg e]; rw [hb] at h1; exact ⟨σ', h1, h2⟩
  | _ => exact ⟨σ', h1, h2⟩
theorem St.bool {c : Operand} {b : Bool} {a : Act} {w : World} (h : ev σ c = .d (.v (.bool b))) (hs : St C σ a w) : a.eval c = .bool b := by
  obtain ⟨β, hi⟩ := hs
  have := hi.ev c
  rw [h] at this
  generalize a.eval c = u at *
  cases this; rfl
theorem AC.condT {c : Operand} {x y : Code} (h : ev σ c = .d (.v (.bool true))) (k : AC P C x Q σ) : AC P C (.cond c x y) Q σ := fun a w hs => wp_cond_true (St.bool h hs) (k a w hs)
theorem AC.condF {c : Operand} {x y : Code} (h : ev σ c = .d (.v (.bool false))) (k : AC P C y Q σ) : AC P C (.cond c x y) Q σ := fun a w hs => wp_cond_false (St.bool h hs) (k a w hs)
/-- What is known of σ' is known of σ. -/
def subEnv : List (Nat × AV) → List (Nat × AV) → Prop
  | _, [] => True
  | e, (t, v) :: r => get? e t = some v ∧ subEnv e r
def subObj : List (Nat × AO) → List (Nat × AO) → Prop
  | _, [] => True
  | e, (t, v) :: r => get? e t = some v ∧ subObj e r
theorem subEnv.out {e : List (Nat × AV)} : ∀ {r : List (Nat × AV)}, subEnv e r → ∀ t v, get? r t = some v → get? e t = some v
  | [], _, t, v, h => by simp [get?] at h
  | (t', v') :: r, ⟨h1, h2⟩, t, v, h => by
    rw [get?_cons] at h
    by_cases e : t' = t
    · rw [if_pos e] at h; injection h with h; subst e h; exact h1
    · rw [if_neg e] at h; exact h2.out t v h
theorem subObj.out {e : List (Nat × AO)} : ∀ {r : List (Nat × AO)}, subObj e r → ∀ t v, get? r t = some v → get? e t = some v
  | [], _, t, v, h => by simp [get?] at h
  | (t', v') :: r, ⟨h1, h2⟩, t, v, h => by
    rw [get?_cons] at h
    by_cases e : t' = t
    · rw [if_pos e] at h; injection h with h; subst e h; exact h1
    · rw [if_neg e] at h; exact h2.out t v h
theorem St.sub {σ' : AS} {a : Act} {w : World} (hs : St C σ a w) (he : subEnv σ.env σ'.env) (ho : subObj σ.objs σ'.objs) : St C σ' a w := by
  obtain ⟨β, hi⟩ := hs
  have hD : ∀ b, Dat C β σ.objs w b → Dat C β σ'.objs w b ∧ w.heap[b]? = w.heap[b]? := fun b hb => ⟨⟨hb.1, hb.2.1, fun id o h => hb.2.2 id o (ho.out id o h)⟩, rfl⟩
  have hA : ∀ {u : Value} {x : AV}, RA (Dat C β σ.objs w) w β σ.objs u x → RA (Dat C β σ'.objs w) w β σ'.objs u x := fun h =>
    h.keep hD (fun id T cs h => ⟨⟨T, cs, ho.out _ _ h⟩, rfl⟩) (fun id g e k xs h => ⟨g, e, k, xs, ho.out _ _ h, Nat.le_refl _, fun _ => ⟨rfl, rfl⟩⟩)
  refine ⟨β, hi.defs, hi.nt, hi.os, hi.tape, hi.output, hi.size, hi.fr, fun t v ht => ?_, fun id o hid => ?_, fun i j oi oj b h1 h2 => hi.dis i j oi oj b (ho.out _ _ h1) (ho.out _ _ h2), fun i oi b h1 => hi.own i oi b (ho.out _ _ h1), fun i x o h1 h2 => hi.pin i x o h1 (ho.out _ _ h2)⟩
  · obtain ⟨u, h1, h2⟩ := hi.env t v (he.out t v ht)
    exact ⟨u, h1, hA h2⟩
  · have := hi.obj id o (ho.out id o hid)
    cases o with
    | box T cs =>
      obtain ⟨b, us, h1, h2, h3, h4, h5⟩ := this
      exact ⟨b, us, h1, h2, h3, h4, fun i h h' => hA (h5 i h h')⟩
    | row g e k xs =>
      obtain ⟨css, h1, h2, h3, h4⟩ := this
      exact ⟨css, h1, fun i h h' => (h2 i h h').mono fun b hb => (hD b hb).1, h3, h4⟩
    | dead => trivial
    | own x R => exact ⟨this.1, this.2.2 _ _ _ _ this.2.1 hD fun b _ => rfl, this.2.2⟩
/-- From here on less is known. -/
theorem AC.sub {c : Code} (σ' : AS) (he : subEnv σ.env σ'.env) (ho : subObj σ.objs σ'.objs) (h : AC P C c Q σ') : AC P C c Q σ := fun a w hs => h a w (hs.sub he ho)
theorem AC.weak {c : Code} (σ' : AS) (hw : ∀ a w, St C σ a w → St C σ' a w) (h : AC P C c Q σ') : AC P C c Q σ := fun a w hs => h a w (hw a w hs)
/-- A loop: at each head the state is one of a family. -/
theorem AC.loopW {X : Type} {c : Code} (F : X → AS) (I : X → Prop) (μ : X → Nat) (x0 : X) (h0 : I x0) (he : ∀ a w, St C σ a w → St C (F x0) a w)
    (h : ∀ x, I x → AC P C c (AThen (fun σ' => ∃ x', I x' ∧ μ x' < μ x ∧ ∀ a w, St C σ' a w → St C (F x') a w) Q) (F x)) : AC P C (.loop c) Q σ := by
  intro a w hs
  have hs0 := he a w hs
  clear hs he
  intro b k cs
  have key : ∀ n x, μ x = n → I x → ∀ a w, St C (F x) a w →
      ∃ e a' w', liftQ C Q e a' w' ∧ Arrives P (lone (b.at a (.code c :: .inLoop c :: k)) cs w) b k cs e a' w' := by
    intro n
    induction n using Nat.strongRecOn with
    | _ n ih =>
      intro x hn hI a w hs
      obtain ⟨e, a₁, w₁, hq, harr⟩ := h x hI a w hs b (.inLoop c :: k) cs
      obtain ⟨σ', hq, hs'⟩ := hq
      cases e with
      | normal =>
        obtain ⟨x', hI', hlt, he⟩ := hq
        obtain ⟨e₂, a₂, w₂, hq₂, harr₂⟩ := ih (μ x') (hn ▸ hlt) x' rfl hI' a₁ w₁ (he a₁ w₁ hs')
        exact ⟨e₂, a₂, w₂, hq₂, .of_steps (Steps.trans harr (.one step_inLoop)) harr₂⟩
      | exit id => exact ⟨_, a₁, w₁, ⟨σ', hq, hs'⟩, .pass (x := .inLoop c) rfl (fun _ _ => .inl (by simp)) harr⟩
      | goto l => exact ⟨_, a₁, w₁, ⟨σ', hq, hs'⟩, .pass (x := .inLoop c) rfl (fun _ _ => .inl (by simp)) harr⟩
      | ret => exact ⟨_, a₁, w₁, ⟨σ', hq, hs'⟩, .pass (x := .inLoop c) rfl (fun _ _ => .inl (by simp)) harr⟩
      | panic ch => exact ⟨_, a₁, w₁, ⟨σ', hq, hs'⟩, .pass (x := .inLoop c) rfl (fun _ _ => .inl (by simp)) harr⟩
      | outgrown => exact ⟨_, a₁, w₁, ⟨σ', hq, hs'⟩, .pass (x := .inLoop c) rfl (fun _ _ => .inl (by simp)) harr⟩
  obtain ⟨e, a', w', hq, harr⟩ := key _ x0 rfl h0 a w hs0
  exact ⟨e, a', w', hq, .of_steps (.one step_loop) harr⟩
/-- .. the same, slot by slot. -/
theorem AC.loop {X : Type} {c : Code} (F : X → AS) (I : X → Prop) (μ : X → Nat) (x0 : X) (h0 : I x0) (he : subEnv σ.env (F x0).env) (ho : subObj σ.objs (F x0).objs)
    (h : ∀ x, I x → AC P C c (AThen (fun σ' => ∃ x', I x' ∧ μ x' < μ x ∧ subEnv σ'.env (F x').env ∧ subObj σ'.objs (F x').objs) Q) (F x)) : AC P C (.loop c) Q σ :=
  AC.loopW F I μ x0 h0 (fun _ _ hs => hs.sub he ho) fun x hx => (h x hx).mono fun e σ' hq => by
    cases e with
    | normal =>
      obtain ⟨x', h1, h2, h3, h4⟩ := hq
      exact ⟨x', h1, h2, fun _ _ hs => hs.sub h3 h4⟩
    | _ => exact hq
end
end Go.Proofs.YtfijmpmojhlnmaaGreatDoor
