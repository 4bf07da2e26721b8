/-
  append onto a row of the call's own, whatever is appended; one element pushed. No program in sight.
-/
import Derived.Test.YtfijmpmojhlnmaaGreatDoorBase
import Derived.Deep.AppendSrc
namespace Go.Proofs.YtfijmpmojhlnmaaGreatDoor
open Go.RowKit

def putAll (cs : Array Value) : Nat → List Value → Array Value
  | _, [] => cs
  | o, v :: r => putAll (cs.setIfInBounds o v) (o + 1) r
theorem putAll_size (vs : List Value) : ∀ (cs : Array Value) (o : Nat), (putAll cs o vs).size = cs.size := by
  induction vs with
  | nil => intro cs o; rfl
  | cons v r ih => intro cs o; simp [putAll, ih]
theorem putAll_take (vs : List Value) : ∀ (cs : Array Value) (o : Nat), o + vs.length ≤ cs.size → (putAll cs o vs).toList.take (o + vs.length) = cs.toList.take o ++ vs := by
  induction vs with
  | nil => intro cs o _; simp [putAll]
  | cons v r ih =>
    intro cs o h
    simp only [List.length_cons] at h
    have := ih (cs.setIfInBounds o v) (o + 1) (by simp; omega)
    simp only [putAll, List.length_cons]
    rw [show o + (r.length + 1) = o + 1 + r.length by omega, this]
    have e : (cs.setIfInBounds o v).toList.take (o + 1) = cs.toList.take o ++ [v] := by
      rw [Array.toList_setIfInBounds, List.take_add_one]
      simp only [List.getElem?_set]
      rw [List.take_set_of_le (Nat.le_refl _)]
      simp
      omega
    rw [e]
    simp
theorem heap_setCells_self (g : Nat) (e : TypeId) (fr : Nat × Nat) (vs : List Value) : ∀ (cur : Array Value) (o : Nat) (w : World), w.heap[g]? = some (.cells cur e fr) → (w.setCells g o vs).heap[g]? = some (.cells (putAll cur o vs) e fr) := by
  induction vs with
  | nil => intro cur o w h; exact h
  | cons v r ih =>
    intro cur o w h
    refine ih (cur.setIfInBounds o v) (o + 1) _ ?_
    simp only [World.setCell, Array.getElem?_modify, h]
    simp
theorem grownBy_setCells (g : Nat) (vs : List Value) : ∀ (o : Nat) (w : World), w.grownBy (w.setCells g o vs) (some g) := by
  induction vs with
  | nil => intro o w; exact World.grownBy.refl w _
  | cons v r ih =>
    intro o w
    have h := ih (o + 1) (w.setCell ⟨g, o, none⟩ v)
    have hs : (w.setCell ⟨g, o, none⟩ v).heap.size = w.heap.size := by simp [World.setCell]
    refine ⟨h.os.trans rfl, h.tape.trans rfl, h.output.trans rfl, by have := h.size; show w.heap.size ≤ _; rw [← hs]; exact this, fun k hk hne => ?_⟩
    rw [show (w.setCells g o (v :: r)).heap[k]? = ((w.setCell ⟨g, o, none⟩ v).setCells g (o + 1) r).heap[k]? from rfl, h.block k (by rw [hs]; exact hk) hne]
    exact Below.heap_setCell _ _ _ _ (fun e => hne (by simp at e; rw [e]))

/-- append onto an owned row (or nil), of whatever source. -/
theorem append_own_src {P : Program} (w : World) (base : Nat) (t tx ty e : TypeId) (i : TypeInfo) (z : Value) (size bytes : Nat) (ht : P.underlying t = some (.slice e)) (hi : P.info? e = some i) (hz : i.zero = some z)
    (hsize : i.size = size) (hby : i.bytes = bytes) (hzs : z.cells.size = size) (v : Value) (n : Nat) (xs : List Value) (hown : w.ownsRow base e size v n xs)
    (x : Value) (m : Nat) (news : List Value) (hs : Src P size tx x m news w) (h63 : n + m ≤ 9223372036854775807) (hbytes : (n + m) * bytes ≤ 140737488355328) (hbase : base ≤ w.heap.size) :
    ∃ v' w', (Builtin.append_ #[t, tx] ty #[v, x]).run P w = .ok v' w' ∧ w'.ownsRow base e size v' (n + m) (xs ++ news) ∧ w.grownBy w' v.ownBlock ∧
      (∀ g, v'.ownBlock = some g → v.ownBlock = some g ∨ g = w.heap.size) := by
  subst hsize
  subst hby
  have hlen : (xs ++ news).length = (n + m) * i.size := by rw [List.length_append, hown.1, hs.newsLen, Nat.add_mul]
  have grow : ∀ (ba : Option Addr) (cap : Nat), v = .slice ba n cap → (Builtin.firstCells i.size n (.slice ba n cap)).run P w.drew = .ok xs.toArray w.drew → cap < n + m →
      ∃ v' w', (Builtin.append_ #[t, tx] ty #[v, x]).run P w = .ok v' w' ∧ w'.ownsRow base e i.size v' (n + m) (xs ++ news) ∧ w.grownBy w' v.ownBlock ∧
      (∀ g, v'.ownBlock = some g → v.ownBlock = some g ∨ g = w.heap.size) := by
    intro ba cap hv hold hc
    have hr := run_append_grow_src (P := P) w t tx ty e i z ht hi hz ba n cap xs hold x m news hs hc (by omega) (growslice_fits (by omega) hbytes)
    have hge := grownCap_ge w (n + m) cap e
    have hcm : grownCap w (n + m) cap e ≤ maxLen := grownCap_le_maxLen w (n + m) cap e (by unfold maxLen; omega)
    rw [hv]
    refine ⟨_, _, hr, ⟨hlen, .inr ⟨w.heap.size, _, _, rfl, hbase, heap_alloc_new w.drew _, hge, hcm, ?_, ?_⟩⟩, ⟨rfl, rfl, rfl, by simp, fun k hk _ => heap_alloc_old w.drew _ hk⟩, fun g hg => .inr ?_⟩
    · simp only [Array.size_append, List.size_toArray, size_zeroCells, hzs, hlen, ← Nat.add_mul]
      congr 1
      omega
    · simp only [Array.toList_append]
      rw [← hlen]
      exact List.take_left
    · simp only [Value.ownBlock, Option.some.injEq] at hg
      exact hg.symm
  rcases hown.2 with ⟨hv, hn⟩ | ⟨g, cap, cur, hv, hbg, hg, hnc, hcm, hcs, htake⟩
  · have hx : xs = [] := List.eq_nil_of_length_eq_zero (by rw [hown.1, hn]; simp)
    by_cases hm : m = 0
    · have hnw : news = [] := List.eq_nil_of_length_eq_zero (by rw [hs.newsLen, hm]; simp)
      subst hv hn hx hnw hm
      refine ⟨.slice none 0 0, w, ?_, by simpa using World.ownsRow_nil w base e i.size, World.grownBy.refl w _, fun g hg => by simp [Value.ownBlock] at hg⟩
      rcases hs.kind with ⟨e', hk⟩ | hk <;> simp [Builtin.append_, run_underlying ht, run_underlying hk, sizeOf, typeInfo, hi, hs.len, hs.cells]
    · refine grow none 0 (by rw [hv, hn]) ?_ (by omega)
      rw [hx, hn]
      exact run_firstCells_none w.drew i.size 0 0 0
  · by_cases hroom : n + m ≤ cap
    · have hfit : n * i.size + news.length ≤ cur.size := by rw [hs.newsLen, hcs, ← Nat.add_mul]; exact Nat.mul_le_mul_right _ hroom
      have hcell : ∀ j (hj : j < news.length), w.cell? ⟨g, 0 + n * i.size + j, none⟩ = some (cur[0 + n * i.size + j]'(by rw [Nat.zero_add]; exact Nat.lt_of_lt_of_le (Nat.add_lt_add_left hj _) hfit)) := by
        intro j hj
        simp only [World.cell?, hg]
        simp
      have hr := run_append_room_src (P := P) w t tx ty e i ht hi g 0 n cap x m news hs hroom (fun j hj => by rw [hcell j hj]; rfl) (fun j hj => by simp only [World.frozen?, hg]; simp)
      rw [hv]
      rw [Nat.zero_add] at hr
      refine ⟨_, _, hr, ⟨hlen, .inr ⟨g, cap, _, rfl, hbg, heap_setCells_self g e _ news cur _ w hg, hroom, hcm, by rw [putAll_size, hcs], ?_⟩⟩, grownBy_setCells g news _ w, fun g' hg' => .inl hg'⟩
      rw [Nat.add_mul, ← hs.newsLen, putAll_take _ _ _ hfit, htake]
    · refine grow (some ⟨g, 0, none⟩) cap hv ?_ (by omega)
      have holds : ∀ j u, xs[j]? = some u → w.drew.cell? ((⟨g, 0, none⟩ : Addr).add j) = some u := fun j u hu => hown.cells (g := g) (by rw [hv]; rfl) j u hu
      exact run_firstCells_some w.drew i.size n ⟨g, 0, none⟩ n cap xs hown.1 holds

/-- The element type's row of the table. -/
structure Elem (P : Program) (t e : TypeId) (size bytes : Nat) : Prop where
  under : P.underlying t = some (.slice e)
  pos : 0 < bytes
  info : ∃ i z, P.info? e = some i ∧ i.zero = some z ∧ i.size = size ∧ i.bytes = bytes ∧ z.cells.size = size
theorem Elem.of {P : Program} {t e : TypeId} {size bytes : Nat} (h1 : P.underlying t = some (.slice e)) (h2 : ((P.info? e).map fun i => (i.zero.map fun z => z.cells.size, i.size, i.bytes)) = some (some size, size, bytes)) (h3 : 0 < bytes := by decide) : Elem P t e size bytes := by
  refine ⟨h1, h3, ?_⟩
  obtain ⟨i, hi, hz⟩ := Option.map_eq_some_iff.1 h2
  simp only [Prod.mk.injEq] at hz
  obtain ⟨z, hz1, hz2⟩ := Option.map_eq_some_iff.1 hz.1
  exact ⟨i, z, hi, hz1, hz.2.1, hz.2.2, hz2⟩

theorem wp_append_src {P : Program} {w : World} {ops : Array Oper} {rest : List Oper} {o : Oper} {a : Act} {Q : Exit → Act → World → Prop} (hgd : o.guard = none) (s x : Operand) (t tx : TypeId)
    (ho : o.op = .call { callee := .builtin .append, args := #[s, x], argTypes := #[t, tx] }) {e : TypeId} {size bytes : Nat} (hE : Elem P t e size bytes) (base : Nat)
    (v : Value) (n : Nat) (xs : List Value) (hsv : a.eval s = v) (hown : w.ownsRow base e size v n xs)
    (vx : Value) (m : Nat) (news : List Value) (hx : a.eval x = vx) (hs : Src P size tx vx m news w) (h63 : n + m ≤ 9223372036854775807) (hbytes : (n + m) * bytes ≤ 140737488355328) (hbase : base ≤ w.heap.size)
    (h : ∀ v' w', w'.ownsRow base e size v' (n + m) (xs ++ news) → w.grownBy w' v.ownBlock → (∀ g, v'.ownBlock = some g → v.ownBlock = some g ∨ g = w.heap.size) → wpList P ops Q rest (a.put o.dst v') w') : wpList P ops Q (o :: rest) a w := by
  obtain ⟨i, z, hi, hz, hsize, hby, hzs⟩ := hE.info
  refine wpList_plain hgd fun K hK => ?_
  obtain ⟨v', w', hr, h2, h3, h4⟩ := append_own_src (P := P) w base t tx o.type e i z size bytes hE.under hi hz hsize hby hzs v n xs hown vx m news hs h63 hbytes hbase
  unfold Oper.wp execOp
  simp only [ho, resolve, invoke, builtin, Sem.run_bind, Sem.run_pure, Result.andThen_ok, List.map_toArray, List.map_cons, List.map_nil, hsv, hx, hr]
  exact hK _ _ (h v' w' h2 h3 h4)

/-! ### lists in rows of the call's own -/
/-- What a result may be read through: what came in, and what the call has made. -/
abbrev Mo (S0 : Nat → Prop) (n0 : Nat) (w : World) : Nat → Prop := fun b => (S0 b ∨ n0 ≤ b) ∧ b < w.heap.size
/-- .. but not the row that is still written. -/
abbrev Nw (S0 : Nat → Prop) (n0 : Nat) (w : World) (v : Value) : Nat → Prop := fun b => (S0 b ∨ n0 ≤ b) ∧ b < w.heap.size ∧ v.ownBlock ≠ some b

def OwnL {α : Type} (R : Rp α) (S0 : Nat → Prop) (n0 : Nat) (e : TypeId) (w : World) (v : Value) (l : List α) : Prop :=
  ∃ css : List (List Value), css.length = l.length ∧ (∀ i (h : i < l.length) (h' : i < css.length), R.rel (Nw S0 n0 w v) w css[i] l[i]) ∧ w.ownsRow n0 e R.k v l.length css.flatten

section
variable {α β : Type} {R : Rp α} {S0 : Nat → Prop} {n0 : Nat} {e : TypeId} {w w' w1 w2 : World} {v v' : Value} {l : List α}
theorem OwnL.css_len {css : List (List Value)} {S : Nat → Prop} (hl : css.length = l.length) (hr : ∀ i (h : i < l.length) (h' : i < css.length), R.rel S w css[i] l[i]) : ∀ cs ∈ css, cs.length = R.k := by
  intro cs hcs
  obtain ⟨i, hi, rfl⟩ := List.getElem_of_mem hcs
  exact R.len (hr i (by omega) hi)
theorem OwnL.nil (R : Rp α) (S0 : Nat → Prop) (n0 : Nat) (e : TypeId) (w : World) : OwnL R S0 n0 e w (.slice none 0 0) [] :=
  ⟨[], rfl, by simp, by simpa using World.ownsRow_nil w n0 e R.k⟩
/-- A new empty row. -/
theorem OwnL.made (R : Rp α) (S0 : Nat → Prop) (n0 : Nat) (e : TypeId) (w : World) (cur : Array Value) (cap : Nat) (hn : n0 ≤ w.heap.size) (hm : cap ≤ maxLen) (hs : cur.size = cap * R.k) :
    OwnL R S0 n0 e (w.alloc (.cells cur e)) (.slice (some ⟨w.heap.size, 0, none⟩) 0 cap) [] :=
  ⟨[], rfl, by simp, by simpa using World.ownsRow_made w cur cap hn hm hs⟩
theorem OwnL.own_lt (h : OwnL R S0 n0 e w v l) : ∀ g, v.ownBlock = some g → n0 ≤ g ∧ g < w.heap.size := by
  obtain ⟨css, _, _, hown⟩ := h
  exact hown.lt
theorem OwnL.ext (h : OwnL R S0 n0 e w v l) (hx : Ext w w') : OwnL R S0 n0 e w' v l := by
  obtain ⟨css, hl, hr, hown⟩ := h
  have hsz := hx.size
  refine ⟨css, hl, fun i h1 h2 => R.keep (hr i h1 h2) fun b hb => ⟨⟨hb.1, by omega, hb.2.2⟩, hx.block b hb.2.1⟩, hown.1, ?_⟩
  rcases hown.2 with h0 | ⟨g, cap, cur, hv', hb, hg, rest⟩
  · exact .inl h0
  · exact .inr ⟨g, cap, cur, hv', hb, by rw [hx.block g (by have := (Array.getElem?_eq_some_iff.1 hg).1; exact this)]; exact hg, rest⟩
theorem OwnL.shape (h : OwnL R S0 n0 e w v l) : ∃ a c, v = .slice a l.length c ∧ l.length ≤ c ∧ c ≤ maxLen := by
  obtain ⟨css, hl, hr, hown⟩ := h
  rcases hown.2 with ⟨h0, h1⟩ | ⟨g, cap, cur, hv', hb, hg, h1, h2, _⟩
  · exact ⟨none, 0, by rw [h0, h1], by omega, by simp [maxLen]⟩
  · exact ⟨_, _, hv', h1, h2⟩
/-- What a call answers, made while the row is ours. -/
theorem OwnL.take {R' : Rp β} {x : β} {cs : List Value} (h : OwnL R S0 n0 e w1 v l) (hn : n0 ≤ w1.heap.size) (hx : R'.rel (Mo (Nw S0 n0 w1 v) w1.heap.size w2) w2 cs x) : R'.rel (Nw S0 n0 w2 v) w2 cs x := by
  refine R'.mono hx fun b hb => ?_
  rcases hb.1 with h1 | h1
  · exact ⟨h1.1, hb.2, h1.2.2⟩
  · exact ⟨.inr (by omega), hb.2, fun hv => by have := (h.own_lt b hv).2; omega⟩
/-- What came in, as something that may be laid into the row. -/
theorem OwnL.arg {R' : Rp β} {x : β} {cs : List Value} (h : OwnL R S0 n0 e w' v l) (hx : Below n0 w w') (hS : ∀ b, S0 b → b < n0) (hn : n0 ≤ w'.heap.size) (ha : R'.rel S0 w cs x) : R'.rel (Nw S0 n0 w' v) w' cs x :=
  R'.keep ha fun b hb => ⟨⟨.inl hb, by have := hS b hb; omega, fun hv => by have := (h.own_lt b hv).1; have := hS b hb; omega⟩, hx.block b (hS b hb)⟩
/-- New things of a call's, in a later world. -/
theorem OwnL.fresh {R' : Rp β} {x : β} {cs : List Value} {m : Nat} (h : OwnL R S0 n0 e w v l) (hn : n0 ≤ w.heap.size) (hx : R'.rel (Mo (fun _ => False) m w1) w1 cs x) (hm : w.heap.size ≤ m) (hsz : w1.heap.size ≤ w2.heap.size)
    (hk : ∀ b, m ≤ b → w2.heap[b]? = w1.heap[b]?) : R'.rel (Nw S0 n0 w2 v) w2 cs x :=
  R'.keep hx fun b hb => by
    have h1 : m ≤ b := hb.1.resolve_left id
    exact ⟨⟨.inr (by omega), by omega, fun hv => by have := (h.own_lt b hv).2; omega⟩, hk b h1⟩
theorem OwnL.shut (h : OwnL R S0 n0 e w v l) : (Rp.slice R).rel (Mo S0 n0 w) w [v] l := by
  have hlt := h.own_lt
  obtain ⟨css, hl, hr, hown⟩ := h
  have hcl := OwnL.css_len hl hr
  rcases hown.2 with ⟨rfl, h0⟩ | ⟨g, cap, cur, rfl, hb, hg, hnc, hcm, _⟩
  · refine ⟨none, 0, by rw [h0], by omega, by simp [maxLen], fun hp => by omega⟩
  · refine ⟨_, cap, rfl, hnc, hcm, fun _ => ⟨g, 0, rfl, ⟨.inr hb, (hlt g rfl).2⟩, fun i hi => ?_⟩⟩
    have hi' : i < css.length := by omega
    refine ⟨css[i], R.mono (hr i hi hi') (fun b hb => ⟨hb.1, hb.2.1⟩), fun j hj => ?_⟩
    have hj' : j < R.k := by rw [← hcl css[i] (List.getElem_mem hi')]; exact hj
    have := hown.cells (g := g) rfl (i * R.k + j) (css[i][j]) (by rw [flatten_get hcl i j hi' hj']; exact List.getElem?_eq_getElem hj)
    rw [Addr.add_lit] at this
    exact this
/-- One more element. -/
theorem OwnL.pushed {x : α} {es : List Value} (hl0 : ∃ css : List (List Value), css.length = l.length ∧ (∀ i (h : i < l.length) (h' : i < css.length), R.rel (Nw S0 n0 w v) w css[i] l[i]) ∧ w'.ownsRow n0 e R.k v' (l.length + 1) (css.flatten ++ es))
    (hx : R.rel (Nw S0 n0 w v) w es x) (hg : w.grownBy w' v.ownBlock) (hv : ∀ g, v'.ownBlock = some g → v.ownBlock = some g ∨ w.heap.size ≤ g) : OwnL R S0 n0 e w' v' (l ++ [x]) := by
  obtain ⟨css, hl, hr, hown⟩ := hl0
  have hk : ∀ b, Nw S0 n0 w v b → Nw S0 n0 w' v' b ∧ w'.heap[b]? = w.heap[b]? := fun b hb =>
    ⟨⟨hb.1, by have := hg.size; omega, fun h => by rcases hv b h with h | h; exact hb.2.2 h; omega⟩, hg.block b hb.2.1 (fun e => hb.2.2 e.symm)⟩
  refine ⟨css ++ [es], by simp [hl], fun i h1 h2 => ?_, by simpa using hown⟩
  by_cases hi : i < l.length
  · rw [List.getElem_append_left (by omega), List.getElem_append_left hi]
    exact R.keep (hr i hi (by omega)) hk
  · rw [List.getElem_append_right (by omega), List.getElem_append_right (by omega)]
    simp only [List.getElem_singleton]
    exact R.keep hx hk
end

theorem foldl_put (cs : List Value) : ∀ (k : Nat) (acc : Array Value), k + cs.length ≤ acc.size → (∀ j, j < k → True) →
    (List.foldl (fun (a : Array Value) (x : Value × Nat) => a.setIfInBounds (0 + x.2) x.1) acc (cs.zipIdx k)) = putAll acc k cs := by
  induction cs with
  | nil => intro k acc _ _; rfl
  | cons c r ih =>
    intro k acc h _
    simp only [List.length_cons] at h
    simp only [List.zipIdx_cons, List.foldl_cons, putAll, Nat.zero_add]
    have := ih (k + 1) (acc.setIfInBounds k c) (by simp; omega) (fun _ _ => trivial)
    simpa [Nat.zero_add] using this
theorem run_buildSlice_one {P : Program} {t e : TypeId} {size bytes : Nat} (hE : Elem P t e size bytes) (hz : size ≤ 16777216) (hp : 0 < size) (vx : Value) (hx : vx.cells.size = size) (w : World) :
    (Instr.buildSlice t 1 #[(0, vx)]).run P w = .ok (.slice (some ⟨w.heap.size, 0, none⟩) 1 1) (w.alloc (.cells vx.cells e)) := by
  obtain ⟨i, z, hi, hzz, hsize, hby, hzs⟩ := hE.info
  have h1 : ¬ (16777216 < size) := by omega
  have h2 : ¬ size = 0 := by omega
  have hf : (vx.cells.zipIdx.foldl (fun (cs : Array Value) (x : Value × Nat) => cs.setIfInBounds (0 + x.2) x.1) ((Array.range size).map (z.cells[· % z.cells.size]!))) = vx.cells := by
    rw [← Array.foldl_toList, Array.toList_zipIdx]
    rw [foldl_put vx.cells.toList 0 _ (by simp [hx]) (fun _ _ => trivial)]
    apply Array.ext'
    have hs := putAll_size vx.cells.toList ((Array.range size).map (z.cells[· % z.cells.size]!)) 0
    have ht := putAll_take vx.cells.toList ((Array.range size).map (z.cells[· % z.cells.size]!)) 0 (by simp [hx])
    rw [List.take_of_length_le (by rw [Array.length_toList, hs]; simp [hx])] at ht
    rw [ht]
    simp
  have hfill : Instr.fill (fun i => some (i * size, size)) ((Array.range (1 * size)).map (z.cells[· % z.cells.size]!)) [(0, vx)] = some vx.cells := by
    simp only [Instr.fill, hx, Nat.zero_mul, Nat.one_mul]
    rw [if_neg (by simp)]
    exact congrArg some hf
  simp [Instr.buildSlice, run_underlying hE.under, sizeOf, typeInfo, zeroValue, hi, hzz, hsize, h1, h2, newRow]
  simp only [Nat.one_mul] at hfill
  rw [hfill]
  simp

/-- A row v was written on: it has become v'; all other old blocks are as they were. -/
structure Upd (w w' : World) (v v' : Value) : Prop where
  os : w'.os = w.os
  tape : w'.tape = w.tape
  output : w'.output = w.output
  size : w.heap.size ≤ w'.heap.size
  block : ∀ k, k < w.heap.size → v.ownBlock ≠ some k → w'.heap[k]? = w.heap[k]?
  own : ∀ g, v'.ownBlock = some g → v.ownBlock = some g ∨ w.heap.size ≤ g
theorem Upd.refl (w : World) (v : Value) : Upd w w v v := ⟨rfl, rfl, rfl, Nat.le_refl _, fun _ _ _ => rfl, fun _ h => .inl h⟩
theorem Upd.tr {a b c : World} {u v x : Value} (h : Upd a b u v) (k : Upd b c v x) : Upd a c u x :=
  ⟨k.os.trans h.os, k.tape.trans h.tape, k.output.trans h.output, Nat.le_trans h.size k.size,
    fun i hi hu => (k.block i (by have := h.size; omega) (fun hv => by rcases h.own i hv with h1 | h1; exact hu h1; omega)).trans (h.block i hi hu),
    fun g hg => by rcases k.own g hg with h1 | h1; exact h.own g h1; have := h.size; omega⟩
theorem Upd.of_ext {w w' : World} (h : Ext w w') (v : Value) : Upd w w' v v := ⟨h.os, h.tape, h.output, h.size, fun k hk _ => h.block k hk, fun _ h => .inl h⟩
theorem Upd.below {w w' : World} {v v' : Value} {n0 : Nat} (h : Upd w w' v v') (hn : n0 ≤ w.heap.size) (hv : ∀ g, v.ownBlock = some g → n0 ≤ g) : Below n0 w w' :=
  ⟨h.os, h.tape, h.output, h.size, fun k hk => h.block k (by omega) (fun e => by have := hv k e; omega)⟩
/-- What lies apart from the row. -/
abbrev Apart (w : World) (v : Value) : Nat → Prop := fun b => b < w.heap.size ∧ v.ownBlock ≠ some b
theorem Upd.rel {α : Type} {R : Rp α} {w w' : World} {v v' : Value} (h : Upd w w' v v') {cs : List Value} {x : α} (hx : R.rel (Apart w v) w cs x) : R.rel (Apart w' v') w' cs x :=
  R.keep hx fun b hb => ⟨⟨by have := h.size; have := hb.1; omega, fun e => by rcases h.own b e with h1 | h1; exact hb.2 h1; have := hb.1; omega⟩, h.block b hb.1 hb.2⟩

/-- 'append(out, x)', the element laid in a block of its own (which the walk has done). -/
theorem wp_push {α : Type} {R : Rp α} {P : Program} {w : World} {ops : Array Oper} {rest : List Oper} {o : Oper} {a : Act} {Q : Exit → Act → World → Prop} (hgd : o.guard = none) (s x : Operand) (t : TypeId)
    (hop : o.op = .call { callee := .builtin .append, args := #[s, x], argTypes := #[t, t] })
    {e : TypeId} {bytes : Nat} (hE : Elem P t e R.k bytes) {S0 : Nat → Prop} {n0 g : Nat} {v : Value} {cs : Array Value} {l : List α} {y : α}
    (hx : a.eval x = .slice (some ⟨g, 0, none⟩) 1 1) (hs : a.eval s = v) (hown : OwnL R S0 n0 e w v l) (hg : g = w.heap.size)
    (hrel : R.rel (Nw S0 n0 w v) w cs.toList y) (hby : (l.length + 1) * bytes ≤ 140737488355328) (hn : n0 ≤ w.heap.size)
    (h : ∀ v' w', OwnL R S0 n0 e w' v' (l ++ [y]) → Upd w w' v v' → Below n0 w w' → wpList P ops Q rest (a.put o.dst v') w') :
    wpList P ops Q (o :: rest) a (w.alloc (.cells cs e)) := by
  subst hg
  have hlen : l.length + 1 ≤ 9223372036854775807 := by
    have := Nat.le_mul_of_pos_right (l.length + 1) hE.pos
    omega
  have hxl : cs.size = R.k := by rw [← Array.length_toList]; exact R.len hrel
  have hlt := hown.own_lt
  obtain ⟨css, hl, hr, hrow0⟩ := id hown
  have hrow := hrow0.alloc (.cells cs e)
  have hcell : ∀ j u, cs.toList[j]? = some u → (w.alloc (.cells cs e)).cell? ((⟨w.heap.size, 0, none⟩ : Addr).add j) = some u := by
    intro j u hu
    rw [Addr.add_lit]
    simp only [World.cell?, heap_alloc_new]
    simpa using hu
  refine wp_append_src hgd s x t t hop hE n0 v l.length css.flatten hs hrow _ 1 cs.toList hx
    (Src.ofSlice _ hE.under _ 1 1 cs.toList (by rw [Array.length_toList, hxl, Nat.one_mul]) hcell (R.one hrel)) hlen hby (by simp; omega) fun v' w' r1 r2 r3 => ?_
  have hgb : w.grownBy w' v.ownBlock := ⟨r2.os, r2.tape, r2.output, by have := r2.size; simp at this; omega, fun k hk hne => by
    rw [r2.block k (by simp; omega) hne]; exact heap_alloc_old w _ hk⟩
  have hv : ∀ g, v'.ownBlock = some g → v.ownBlock = some g ∨ w.heap.size ≤ g := fun g hg => by
    rcases r3 g hg with h1 | h1
    · exact .inl h1
    · right; simp at h1; omega
  have hU : Upd w w' v v' := ⟨hgb.os, hgb.tape, hgb.output, hgb.size, fun k hk hne => hgb.block k hk (fun e => hne e.symm), hv⟩
  exact h v' w' (OwnL.pushed ⟨css, hl, hr, r1⟩ hrel hgb hv) hU (hU.below hn fun g hg => (hlt g hg).1)

/-! ### bytes -/
def Rp.u8 : Rp UInt8 where
  k := 1
  rel _ _ cs c := cs = [.int .u8 c.toNat]
  len h := by subst h; rfl
  one h := by subst h; simp [Value.oneCell']
  keep h _ := h
def byteV (l : List UInt8) : List Value := l.map fun c => .int .u8 c.toNat
theorem byteV_app (a b : List UInt8) : byteV (a ++ b) = byteV a ++ byteV b := by simp [byteV]
theorem u8_row {S0 : Nat → Prop} {n0 : Nat} {e : TypeId} {w : World} {v : Value} {xs : List UInt8} : OwnL Rp.u8 S0 n0 e w v xs ↔ w.ownsRow n0 e 1 v xs.length (byteV xs) := by
  constructor
  · rintro ⟨css, hl, hr, hown⟩
    have e1 : css = xs.map fun c => [.int .u8 c.toNat] := by
      refine List.ext_getElem (by simp [hl]) fun i h1 h2 => ?_
      rw [show css[i] = _ from hr i (by simpa using h2) h1]
      simp
    have e2 : css.flatten = byteV xs := by
      rw [e1]; clear e1 hl hr hown
      induction xs with
      | nil => rfl
      | cons c r ih => simpa [byteV] using ih
    rw [e2] at hown
    exact hown
  · intro hown
    refine ⟨xs.map fun c => [.int .u8 c.toNat], by simp, fun i h1 h2 => by simp [Rp.u8], ?_⟩
    have e2 : (xs.map fun c => [Value.int .u8 c.toNat]).flatten = byteV xs := by
      clear hown
      induction xs with
      | nil => rfl
      | cons c r ih => simpa [byteV] using ih
    rw [e2]
    exact hown
/-- 'append(b, s...)'. -/
theorem wp_pushS {P : Program} {w : World} {ops : Array Oper} {rest : List Oper} {o : Oper} {a : Act} {Q : Exit → Act → World → Prop} (hgd : o.guard = none) (s x : Operand) (t tx : TypeId)
    (hop : o.op = .call { callee := .builtin .append, args := #[s, x], argTypes := #[t, tx] })
    {e : TypeId} (hE : Elem P t e 1 1) (hT : P.underlying tx = some .string) {S0 : Nat → Prop} {n0 : Nat} {v : Value} {l : List UInt8} {str : ByteArray}
    (hx : a.eval x = .string str) (hs : a.eval s = v) (hown : OwnL Rp.u8 S0 n0 e w v l) (hlen : l.length + str.size ≤ 140737488355328) (hn : n0 ≤ w.heap.size)
    (h : ∀ v' w', OwnL Rp.u8 S0 n0 e w' v' (l ++ str.data.toList) → Upd w w' v v' → Below n0 w w' → wpList P ops Q rest (a.put o.dst v') w') :
    wpList P ops Q (o :: rest) a w := by
  have hlt := hown.own_lt
  refine wp_append_src hgd s x t tx hop hE n0 v l.length (byteV l) hs (u8_row.1 hown) _ _ _ hx (Src.ofString _ hT str) (by omega) (by omega) hn fun v' w' r1 r2 r3 => ?_
  have hU : Upd w w' v v' := ⟨r2.os, r2.tape, r2.output, r2.size, fun k hk hne => r2.block k hk (fun e => hne e.symm), fun g hg => by rcases r3 g hg with h1 | h1; exact .inl h1; right; omega⟩
  refine h v' w' (u8_row.2 ?_) hU (hU.below hn fun g hg => (hlt g hg).1)
  rw [byteV_app, List.length_append]
  have : str.data.toList.length = str.size := by simp
  rw [this]
  exact r1
/-- 'string(b)'. -/
theorem OwnL.toStr {P : Program} {S0 : Nat → Prop} {n0 : Nat} {e : TypeId} {w : World} {v : Value} {xs : List UInt8} (h : OwnL Rp.u8 S0 n0 e w v xs) (src dst : TypeId) (hs : P.underlying src = some (.slice e)) (he : P.underlying e = some (.int .u8)) (hd : P.underlying dst = some .string) :
    (convert src dst v).run P w = .ok (.string ⟨xs.toArray⟩) w := by
  have hrow := u8_row.1 h
  rcases hrow.2 with ⟨rfl, h0⟩ | ⟨g, cap, cur, rfl, hb, hg, _⟩
  · have : xs = [] := List.eq_nil_of_length_eq_zero h0
    subst this
    exact run_convert_bytes_nil w src e hs he 0 0 dst hd
  · refine run_convert_bytes_back w src dst e _ cap xs hs he hd fun j hj => ?_
    exact hrow.cells (g := g) rfl j _ (by simp [byteV, List.getElem?_eq_getElem hj])

/-! ### a whole list appended -/
theorem choose_list {α : Type} {p : Nat → α → Prop} : ∀ (n : Nat), (∀ i, i < n → ∃ x, p i x) → ∃ l : List α, l.length = n ∧ ∀ i (h : i < l.length), p i l[i]
  | 0, _ => ⟨[], rfl, fun i h => absurd h (by simp)⟩
  | n + 1, h => by
    obtain ⟨l, hl, hp⟩ := choose_list n (fun i hi => h i (by omega))
    obtain ⟨x, hx⟩ := h n (by omega)
    refine ⟨l ++ [x], by simp [hl], fun i hi => ?_⟩
    by_cases hi' : i < l.length
    · rw [List.getElem_append_left hi']; exact hp i hi'
    · have : i = n := by simp at hi; omega
      subst this
      rw [List.getElem_append_right (by omega)]
      simpa [hl] using hx
/-- What a list that is read holds, cell by cell. -/
theorem slice_cells {α : Type} {R : Rp α} {S : Nat → Prop} {w : World} {a : Option Addr} {n c : Nat} {l : List α} (h : (Rp.slice R).rel S w [.slice a n c] l) :
    n = l.length ∧ n ≤ c ∧ c ≤ maxLen ∧ ∃ css : List (List Value), css.length = l.length ∧ (∀ i (h : i < l.length) (h' : i < css.length), R.rel S w css[i] l[i]) ∧
      (0 < n → ∃ b o, a = some ⟨b, o, none⟩ ∧ S b ∧ ∀ j u, css.flatten[j]? = some u → w.cell? ⟨b, o + j, none⟩ = some u) := by
  obtain ⟨a', c', e, h1, h2, h3⟩ := h
  injection e with e
  injection e with e1 e2 e3
  subst e1 e2 e3
  refine ⟨rfl, h1, h2, ?_⟩
  by_cases h0 : 0 < l.length
  · obtain ⟨b, o, ha, hb, hel⟩ := h3 h0
    obtain ⟨css, hcl, hcs⟩ := choose_list (p := fun i es => ∀ h : i < l.length, R.rel S w es l[i] ∧ ∀ j (hj : j < es.length), w.cell? ⟨b, o + (i * R.k + j), none⟩ = some es[j]) l.length (fun i hi => by
      obtain ⟨es, he1, he2⟩ := hel i hi
      exact ⟨es, fun _ => ⟨he1, he2⟩⟩)
    have hr : ∀ i (h : i < l.length) (h' : i < css.length), R.rel S w css[i] l[i] := fun i h h' => (hcs i h' h).1
    have hk := OwnL.css_len hcl hr
    refine ⟨css, hcl, hr, fun _ => ⟨b, o, ha, hb, fun j u hj => ?_⟩⟩
    have hjl : j < css.flatten.length := (List.getElem?_eq_some_iff.1 hj).1
    rw [flatten_len hk] at hjl
    have hkp : 0 < R.k := by
      rcases Nat.eq_zero_or_pos R.k with h | h
      · rw [h] at hjl; simp at hjl
      · exact h
    have hi : j / R.k < css.length := Nat.div_lt_of_lt_mul (by rw [Nat.mul_comm]; exact hjl)
    have hm : j % R.k < R.k := Nat.mod_lt _ hkp
    have hd : j / R.k * R.k + j % R.k = j := by rw [Nat.mul_comm]; exact Nat.div_add_mod j R.k
    have h4 := flatten_get hk (j / R.k) (j % R.k) hi hm
    rw [hd, hj] at h4
    have h5 := List.getElem?_eq_some_iff.1 h4.symm
    obtain ⟨h6, h7⟩ := h5
    have h8 := (hcs (j / R.k) hi (by omega)).2 (j % R.k) h6
    rw [hd, h7] at h8
    exact h8
  · have : l = [] := List.eq_nil_of_length_eq_zero (by omega)
    subst this
    exact ⟨[], rfl, fun i h => absurd h (by simp), fun h => absurd h (by simp)⟩

/-- A list that lies in memory, whatever block its row is of; what its elements lead to lies in S. -/
def SlC {α : Type} (R : Rp α) (S : Nat → Prop) (w : World) (a : Option Addr) (n : Nat) (l : List α) : Prop :=
  n = l.length ∧ ∃ css : List (List Value), css.length = l.length ∧ (∀ i (h : i < l.length) (h' : i < css.length), R.rel S w css[i] l[i]) ∧
    (0 < n → ∃ b o, a = some ⟨b, o, none⟩ ∧ ∀ j u, css.flatten[j]? = some u → w.cell? ⟨b, o + j, none⟩ = some u)
theorem SlC.of_rel {α : Type} {R : Rp α} {S : Nat → Prop} {w : World} {a : Option Addr} {n c : Nat} {l : List α} (h : (Rp.slice R).rel S w [.slice a n c] l) : SlC R S w a n l := by
  obtain ⟨h1, _, _, css, h2, h3, h4⟩ := slice_cells h
  exact ⟨h1, css, h2, h3, fun hp => by obtain ⟨b, o, ha, _, hc⟩ := h4 hp; exact ⟨b, o, ha, hc⟩⟩
theorem SlC.keep {α : Type} {R : Rp α} {S S' : Nat → Prop} {w w' : World} {a : Option Addr} {n : Nat} {l : List α} (h : SlC R S w a n l) (hs : ∀ b, S b → S' b ∧ w'.heap[b]? = w.heap[b]?) (ha : ∀ g, a.map (·.block) = some g → w'.heap[g]? = w.heap[g]?) : SlC R S' w' a n l := by
  obtain ⟨h1, css, h2, h3, h4⟩ := h
  exact ⟨h1, css, h2, fun i h h' => R.keep (h3 i h h') hs, fun hp => by
    obtain ⟨b, o, e, hc⟩ := h4 hp
    exact ⟨b, o, e, fun j u hj => (World.cell?_of_block (w := w) (ha b (by rw [e]; rfl))).trans (hc j u hj)⟩⟩
/-- A row that was written out in the text. -/
theorem SlC.lit {α : Type} {R : Rp α} {S : Nat → Prop} {w : World} {cs : Array Value} {e : TypeId} {l : List α} (css : List (List Value)) (hl : css.length = l.length) (hr : ∀ i (h : i < l.length) (h' : i < css.length), R.rel S (w.alloc (.cells cs e)) css[i] l[i]) (hcs : cs.toList = css.flatten) :
    SlC R S (w.alloc (.cells cs e)) (some ⟨w.heap.size, 0, none⟩) l.length l := by
  refine ⟨rfl, css, hl, hr, fun _ => ⟨_, _, rfl, fun j u hj => ?_⟩⟩
  rw [← hcs] at hj
  simp only [World.cell?, heap_alloc_new]
  simpa using hj

theorem wp_append_all {α : Type} {R : Rp α} {P : Program} {w : World} {ops : Array Oper} {rest : List Oper} {o : Oper} {a : Act} {Q : Exit → Act → World → Prop} (hgd : o.guard = none) (s x : Operand) (t : TypeId)
    (hop : o.op = .call { callee := .builtin .append, args := #[s, x], argTypes := #[t, t] })
    {e : TypeId} {bytes : Nat} (hE : Elem P t e R.k bytes) {S0 : Nat → Prop} {n0 : Nat} {v : Value} {l l2 : List α} {xa : Option Addr} {xn xc : Nat}
    (hx : a.eval x = .slice xa xn xc) (hs : a.eval s = v) (hown : OwnL R S0 n0 e w v l)
    (hrel : SlC R (Nw S0 n0 w v) w xa xn l2) (hby : (l.length + l2.length) * bytes ≤ 140737488355328) (hn : n0 ≤ w.heap.size)
    (h : ∀ v' w', OwnL R S0 n0 e w' v' (l ++ l2) → Upd w w' v v' → Below n0 w w' → wpList P ops Q rest (a.put o.dst v') w') :
    wpList P ops Q (o :: rest) a w := by
  have hlen : l.length + l2.length ≤ 9223372036854775807 := by
    have := Nat.le_mul_of_pos_right (l.length + l2.length) hE.pos
    omega
  have hlt := hown.own_lt
  obtain ⟨css, hl, hr, hrow⟩ := id hown
  obtain ⟨hxn, cs2, hl2, hr2, hc2⟩ := hrel
  have hk2 := OwnL.css_len hl2 hr2
  have hone : ∀ u ∈ cs2.flatten, u.oneCell' = true := by
    intro u hu
    obtain ⟨es, h1, h2⟩ := List.mem_flatten.1 hu
    obtain ⟨i, hi, rfl⟩ := List.getElem_of_mem h1
    exact R.one (hr2 i (by omega) hi) u h2
  have hfl : cs2.flatten.length = xn * R.k := by rw [flatten_len hk2, hl2, hxn]
  have hsrc : Src P R.k t (.slice xa xn xc) xn cs2.flatten w := by
    cases xa with
    | some ad =>
      refine Src.ofSlice _ hE.under ad xn xc _ hfl (fun j u hj => ?_) hone
      rcases Nat.eq_zero_or_pos xn with h0 | h0
      · subst h0
        have : cs2.flatten = [] := List.eq_nil_of_length_eq_zero (by rw [hfl]; simp)
        rw [this] at hj; simp at hj
      · obtain ⟨b, o, ha, hc⟩ := hc2 h0
        injection ha with ha
        subst ha
        have := hc j u hj
        rw [show (⟨b, o, none⟩ : Addr).add j = ⟨b, o + j, none⟩ by unfold Addr.add; split <;> simp_all]
        exact this
    | none =>
      have h0 : xn = 0 := by
        rcases Nat.eq_zero_or_pos xn with h0 | h0
        · exact h0
        · obtain ⟨b, o, ha, _⟩ := hc2 h0; cases ha
      subst h0
      have : cs2.flatten = [] := List.eq_nil_of_length_eq_zero (by rw [hfl]; simp)
      rw [this]
      exact Src.ofNil _ hE.under xc
  refine wp_append_src hgd s x t t hop hE n0 v l.length css.flatten hs hrow _ xn cs2.flatten hx hsrc (by omega) (by rw [hxn]; exact hby) hn fun v' w' r1 r2 r3 => ?_
  have hv : ∀ g, v'.ownBlock = some g → v.ownBlock = some g ∨ w.heap.size ≤ g := fun g hg => by
    rcases r3 g hg with h1 | h1
    · exact .inl h1
    · right; omega
  have hU : Upd w w' v v' := ⟨r2.os, r2.tape, r2.output, r2.size, fun k hk hne => r2.block k hk (fun e => hne e.symm), hv⟩
  have hk : ∀ b, Nw S0 n0 w v b → Nw S0 n0 w' v' b ∧ w'.heap[b]? = w.heap[b]? := fun b hb =>
    ⟨⟨hb.1, by have := hU.size; have := hb.2.1; omega, fun e => by rcases hv b e with h1 | h1; exact hb.2.2 h1; have := hb.2.1; omega⟩, hU.block b hb.2.1 hb.2.2⟩
  refine h v' w' ⟨css ++ cs2, by simp [hl, hl2], fun i h1 h2 => ?_, by rw [List.length_append, List.flatten_append, ← hxn]; exact r1⟩ hU (hU.below hn fun g hg => (hlt g hg).1)
  by_cases hi : i < l.length
  · rw [List.getElem_append_left (by omega), List.getElem_append_left hi]
    exact R.keep (hr i hi (by omega)) hk
  · rw [List.getElem_append_right (by omega), List.getElem_append_right (by omega)]
    simp only [hl]
    exact R.keep (hr2 _ (by simp at h1; omega) (by simp at h2; omega)) hk
end Go.Proofs.YtfijmpmojhlnmaaGreatDoor
