/-
 Package net by plain data.
-/
import Derived.Test.YthdkkpocihkgbaaGreatDoorNtB
namespace Go.Proofs.YthdkkpocihkgbaaGreatDoor
open Go.RowKit
attribute [local irreducible] AC Do St
theorem FV.extN {P : Program} {w w' : World} {u r : Value} {x : List DV} (h : FV P w u x r) (hx : Ext w w') : FV P w' u x r := by
 obtain ⟨g, cap, h1, h2, h3⟩ := h
 exact ⟨g, cap, h1, h2, fun S w2 vs h4 => h3 S w2 vs ⟨h4.os.trans hx.os, h4.tape.trans hx.tape, h4.output.trans hx.output, Nat.le_trans hx.size h4.size, fun k hk => (h4.block k (Nat.lt_of_lt_of_le hk hx.size)).trans (hx.block k hk)⟩⟩
theorem Inv.extN {C : Cx} {σ : AS} {β : Nat → Value} {a : Act} {w : World} (hi : Inv C σ β a w) (hm : C.m = []) : Ext C.w0 w :=
 ⟨hi.os, hi.tape, hi.output, hi.size, fun k hk => hi.fr k hk (by rintro ⟨_, h, _⟩; rw [hm] at h; cases h)⟩
theorem Fn.fv {P : Program} {g : FuncId} {x : List DV} {r : Value} (h : Fn P g x [.d (.v r)]) (w : World) : FV P w (.func (.func g) #[] #[]) x r :=
 ⟨g, #[], rfl, h.body, fun S w' vs _ hS hvs => by
  rw [Array.append_empty]
  refine (h.run S w' vs hS hvs).mono fun e w2 ⟨v, h1, h2, h3⟩ => ⟨?_, h2⟩
  have h3 : RD _ _ v (.v r) := h3
  cases h3
  exact h1⟩
theorem FnK.fn {P : Program} {f : FuncId} {K : World → Prop} {a r : List DV} (h : FnK P f K a r) (hK : ∀ w, K w) : Fn P f a r := ⟨h.body, fun S w vs hS hv => h.run S w vs (hK w) hS hv⟩
/-- A list of one-cell elements. -/
def rowsD (xs : List D) : D := .l (xs.map fun x => [x])
/-- Where the first is of which p holds; -1: there is none. -/
def idxD (xs : List D) (p : D → Bool) : Int := match xs.findIdx? p with
 | some i => i
 | none => -1
theorem idxD_step {xs : List D} {p : D → Bool} {i : Nat} (hi' : i < xs.length) (hb : ∀ x ∈ xs.take i, p x = false) : (p xs[i] = false → ∀ x ∈ xs.take (i + 1), p x = false) ∧ (p xs[i] = true → idxD xs p = (i : Int)) := by
 constructor
 ·intro h x hx
  rw [List.take_succ_eq_append_getElem hi'] at hx
  rcases List.mem_append.1 hx with hx | hx
  ·exact hb x hx
  ·rw [List.mem_singleton.1 hx]; exact h
 ·intro h
  unfold idxD
  have : xs.findIdx? p = some i := by
   rw [List.findIdx?_eq_some_iff_getElem]
   refine ⟨hi', h, fun j hj => ?_⟩
   have := hb xs[j] (List.mem_take_iff_getElem.2 ⟨j, by omega, rfl⟩)
   simp [this]
  rw [this]
theorem idxD_none {xs : List D} {p : D → Bool} (hb : ∀ x ∈ xs, p x = false) : idxD xs p = -1 := by
 unfold idxD
 rw [List.findIdx?_eq_none_iff.2 hb]
theorem idxD_any (xs : List D) (p : D → Bool) : decide (0 ≤ idxD xs p) = xs.any p := by
 unfold idxD
 cases h : xs.findIdx? p with
 | none =>
  have := List.findIdx?_eq_none_iff.1 h
  rw [show xs.any p = false from List.any_eq_false.2 fun x hx => by rw [this x hx]; decide]
  rfl
 | some i =>
  rw [List.findIdx?_eq_some_iff_getElem] at h
  obtain ⟨h1, h2, _⟩ := h
  rw [show xs.any p = true from List.any_eq_true.2 ⟨_, List.getElem_mem h1, h2⟩]
  simp
set_option maxRecDepth 100000 in
set_option maxHeartbeats 2000000 in
theorem idxR (xs : List D) (p : D → Bool) (u : Value) (hlen : xs.length ≤ 1000000000) : FnK Tryz.prog 162 (fun w => ∀ x ∈ xs, FV Tryz.prog w u [.d x] (.bool (p x))) [.d (rowsD xs), .d (.v u)] [.d (.v (.int .i64 (idxD xs p)))] := by
 refine FnK.of Tryz.func162 rfl (by kernel_rfl) Tryz.ntmps162 Tryz.results162 rfl fun w0 S0 hK0 => ?_
 refine wk ?_
 refine AC.loop (X := Nat) (fun i => ⟨[(0, .d (rowsD xs)), (1, .d (.v u)), (7, .d (.v (.int .i64 (xs.length : Int)))), (8, .d (.v (.int .i64 (i : Int))))], []⟩) (fun i => i ≤ xs.length ∧ ∀ x ∈ xs.take i, p x = false) (fun i => xs.length - i) 0 ⟨Nat.zero_le _, by simp⟩ ⟨rfl, rfl, rfl, rfl, trivial⟩ trivial ?_
 intro i ⟨hi, hb⟩
 refine wk ?_
 refine s1 (fun h1 => ?_) (fun h1 => ?_)
 ·have hi' : i < xs.length := by omega
  have hget : xs[i]? = some xs[i] := List.getElem?_eq_getElem hi'
  have hF := hK0 xs[i] (List.getElem_mem hi')
  obtain ⟨hno, hyes⟩ := idxD_step hi' hb
  generalize xs[i] = x at hget hF hno hyes
  refine wk ?_
  ((try (first | intro K ms hms hK | intro K hK)); (first | apply Chain.go | apply Chain.goD); exact rfl; exact rfl; exact Loc.callF hF rfl rfl rfl ⟨.inl rfl, trivial⟩ rfl)
  cases hp : p x with
  | true =>
   refine wk ?_
   rw [hyes hp]
   exact ⟨.d rfl (.inl rfl), trivial⟩
  | false =>
   refine wk ?_
   exact ⟨i + 1, ⟨by omega, hno hp⟩, by omega, ⟨rfl, rfl, rfl, rfl, trivial⟩, trivial⟩
 ·rw [List.take_of_length_le (by omega)] at hb
  refine wk ?_
  rw [idxD_none hb]
  exact ⟨.d rfl (.inl rfl), trivial⟩
set_option maxRecDepth 100000 in
set_option maxHeartbeats 2000000 in
theorem hasR (xs : List D) (p : D → Bool) (u : Value) (hlen : xs.length ≤ 1000000000) : FnK Tryz.prog 105 (fun w => ∀ x ∈ xs, FV Tryz.prog w u [.d x] (.bool (p x))) [.d (rowsD xs), .d (.v u)] [.d (.v (.bool (xs.any p)))] := by
 rw [← idxD_any]
 refine FnK.of Tryz.func105 rfl (by kernel_rfl) Tryz.ntmps105 Tryz.results105 rfl fun w0 S0 hK0 => ?_
 refine wk ?_
 ((try (first | intro K ms hms hK | intro K hK)); (first | apply Chain.go | apply Chain.goD); exact rfl; exact rfl; exact Loc.callW (R := []) (idxR xs p u hlen) rfl ⟨.inl rfl, .inl rfl, trivial⟩ (fun _ _ _ _ _ hi x hx => (hK0 x hx).extN (hi.extN rfl)))
 refine s1 (fun h1 => ?_) (fun h1 => ?_)
 ·refine wk ?_
  rw [decide_eq_true h1]
  exact ⟨.d rfl (.inl rfl), trivial⟩
 ·refine wk ?_
  rw [decide_eq_false h1]
  exact ⟨.d rfl (.inl rfl), trivial⟩
set_option maxRecDepth 100000 in
set_option maxHeartbeats 2000000 in
theorem idxG (xs : List D) (p : D → Bool) (u : Value) (hlen : xs.length ≤ 1000000000) : FnK Tryz.prog 163 (fun w => ∀ x ∈ xs, FV Tryz.prog w u [.d x] (.bool (p x))) [.d (rowsD xs), .d (.v u)] [.d (.v (.int .i64 (idxD xs p)))] := by
 refine FnK.of Tryz.func163 rfl (by kernel_rfl) Tryz.ntmps163 Tryz.results163 rfl fun w0 S0 hK0 => ?_
 refine wk ?_
 refine AC.loop (X := Nat) (fun i => ⟨[(0, .d (rowsD xs)), (1, .d (.v u)), (7, .d (.v (.int .i64 (xs.length : Int)))), (8, .d (.v (.int .i64 (i : Int))))], []⟩) (fun i => i ≤ xs.length ∧ ∀ x ∈ xs.take i, p x = false) (fun i => xs.length - i) 0 ⟨Nat.zero_le _, by simp⟩ ⟨rfl, rfl, rfl, rfl, trivial⟩ trivial ?_
 intro i ⟨hi, hb⟩
 refine wk ?_
 refine s1 (fun h1 => ?_) (fun h1 => ?_)
 ·have hi' : i < xs.length := by omega
  have hget : xs[i]? = some xs[i] := List.getElem?_eq_getElem hi'
  have hF := hK0 xs[i] (List.getElem_mem hi')
  obtain ⟨hno, hyes⟩ := idxD_step hi' hb
  generalize xs[i] = x at hget hF hno hyes
  refine wk ?_
  ((try (first | intro K ms hms hK | intro K hK)); (first | apply Chain.go | apply Chain.goD); exact rfl; exact rfl; exact Loc.callF hF rfl rfl rfl ⟨.inl rfl, trivial⟩ rfl)
  cases hp : p x with
  | true =>
   refine wk ?_
   rw [hyes hp]
   exact ⟨.d rfl (.inl rfl), trivial⟩
  | false =>
   refine wk ?_
   exact ⟨i + 1, ⟨by omega, hno hp⟩, by omega, ⟨rfl, rfl, rfl, rfl, trivial⟩, trivial⟩
 ·rw [List.take_of_length_le (by omega)] at hb
  refine wk ?_
  rw [idxD_none hb]
  exact ⟨.d rfl (.inl rfl), trivial⟩
set_option maxRecDepth 100000 in
set_option maxHeartbeats 2000000 in
theorem hasG (xs : List D) (p : D → Bool) (u : Value) (hlen : xs.length ≤ 1000000000) : FnK Tryz.prog 107 (fun w => ∀ x ∈ xs, FV Tryz.prog w u [.d x] (.bool (p x))) [.d (rowsD xs), .d (.v u)] [.d (.v (.bool (xs.any p)))] := by
 rw [← idxD_any]
 refine FnK.of Tryz.func107 rfl (by kernel_rfl) Tryz.ntmps107 Tryz.results107 rfl fun w0 S0 hK0 => ?_
 refine wk ?_
 ((try (first | intro K ms hms hK | intro K hK)); (first | apply Chain.go | apply Chain.goD); exact rfl; exact rfl; exact Loc.callW (R := []) (idxG xs p u hlen) rfl ⟨.inl rfl, .inl rfl, trivial⟩ (fun _ _ _ _ _ hi x hx => (hK0 x hx).extN (hi.extN rfl)))
 refine s1 (fun h1 => ?_) (fun h1 => ?_)
 ·refine wk ?_
  rw [decide_eq_true h1]
  exact ⟨.d rfl (.inl rfl), trivial⟩
 ·refine wk ?_
  rw [decide_eq_false h1]
  exact ⟨.d rfl (.inl rfl), trivial⟩
set_option maxRecDepth 100000 in
set_option maxHeartbeats 2000000 in
theorem idxI (xs : List D) (p : D → Bool) (u : Value) (hlen : xs.length ≤ 1000000000) : FnK Tryz.prog 164 (fun w => ∀ x ∈ xs, FV Tryz.prog w u [.d x] (.bool (p x))) [.d (rowsD xs), .d (.v u)] [.d (.v (.int .i64 (idxD xs p)))] := by
 refine FnK.of Tryz.func164 rfl (by kernel_rfl) Tryz.ntmps164 Tryz.results164 rfl fun w0 S0 hK0 => ?_
 refine wk ?_
 refine AC.loop (X := Nat) (fun i => ⟨[(0, .d (rowsD xs)), (1, .d (.v u)), (7, .d (.v (.int .i64 (xs.length : Int)))), (8, .d (.v (.int .i64 (i : Int))))], []⟩) (fun i => i ≤ xs.length ∧ ∀ x ∈ xs.take i, p x = false) (fun i => xs.length - i) 0 ⟨Nat.zero_le _, by simp⟩ ⟨rfl, rfl, rfl, rfl, trivial⟩ trivial ?_
 intro i ⟨hi, hb⟩
 refine wk ?_
 refine s1 (fun h1 => ?_) (fun h1 => ?_)
 ·have hi' : i < xs.length := by omega
  have hget : xs[i]? = some xs[i] := List.getElem?_eq_getElem hi'
  have hF := hK0 xs[i] (List.getElem_mem hi')
  obtain ⟨hno, hyes⟩ := idxD_step hi' hb
  generalize xs[i] = x at hget hF hno hyes
  refine wk ?_
  ((try (first | intro K ms hms hK | intro K hK)); (first | apply Chain.go | apply Chain.goD); exact rfl; exact rfl; exact Loc.callF hF rfl rfl rfl ⟨.inl rfl, trivial⟩ rfl)
  cases hp : p x with
  | true =>
   refine wk ?_
   rw [hyes hp]
   exact ⟨.d rfl (.inl rfl), trivial⟩
  | false =>
   refine wk ?_
   exact ⟨i + 1, ⟨by omega, hno hp⟩, by omega, ⟨rfl, rfl, rfl, rfl, trivial⟩, trivial⟩
 ·rw [List.take_of_length_le (by omega)] at hb
  refine wk ?_
  rw [idxD_none hb]
  exact ⟨.d rfl (.inl rfl), trivial⟩
set_option maxRecDepth 100000 in
set_option maxHeartbeats 2000000 in
theorem hasI (xs : List D) (p : D → Bool) (u : Value) (hlen : xs.length ≤ 1000000000) : FnK Tryz.prog 110 (fun w => ∀ x ∈ xs, FV Tryz.prog w u [.d x] (.bool (p x))) [.d (rowsD xs), .d (.v u)] [.d (.v (.bool (xs.any p)))] := by
 rw [← idxD_any]
 refine FnK.of Tryz.func110 rfl (by kernel_rfl) Tryz.ntmps110 Tryz.results110 rfl fun w0 S0 hK0 => ?_
 refine wk ?_
 ((try (first | intro K ms hms hK | intro K hK)); (first | apply Chain.go | apply Chain.goD); exact rfl; exact rfl; exact Loc.callW (R := []) (idxI xs p u hlen) rfl ⟨.inl rfl, .inl rfl, trivial⟩ (fun _ _ _ _ _ hi x hx => (hK0 x hx).extN (hi.extN rfl)))
 refine s1 (fun h1 => ?_) (fun h1 => ?_)
 ·refine wk ?_
  rw [decide_eq_true h1]
  exact ⟨.d rfl (.inl rfl), trivial⟩
 ·refine wk ?_
  rw [decide_eq_false h1]
  exact ⟨.d rfl (.inl rfl), trivial⟩
/-- A layer of a net. -/
structure LN where
 kind : Int
 W : List (List Rat)
 B : List Rat
 G : List (List Int)
def enRs (l : List Rat) : D := .l (l.map enR)
def enIs (l : List Int) : D := .l (l.map fun v => [.v (.int .i64 v)])
def enLN (l : LN) : List D := [.v (.int .i64 l.kind), rowsD (l.W.map enRs), enRs l.B, rowsD (l.G.map enIs)]
def enNet (n : Int) (ls : List LN) : List D := [.v (.int .i64 n), .l (ls.map enLN)]
def lenD : D → Nat
 | .l xs => xs.length
 | _ => 0
theorem len_Rs (l : List Rat) : lenD (enRs l) = l.length := List.length_map ..
theorem len_Is (l : List Int) : lenD (enIs l) = l.length := List.length_map ..
def bigL (l : LN) : Bool := (decide (l.kind = 1) && (decide (32 < l.W.length) || l.W.any fun r => decide (32 < r.length))) || (decide (l.kind = 3) && (decide (32 < l.G.length) || l.G.any fun r => decide (32 < r.length)))
def greatB (n : Int) (ls : List LN) : Bool := decide (32 < n) || decide (16 < ls.length) || ls.any bigL
set_option maxRecDepth 100000 in
set_option maxHeartbeats 2000000 in
theorem great1F (xs : List (List D)) : Fn Tryz.prog 106 [.d (.l xs)] [.d (.v (.bool (decide (32 < xs.length))))] := by
 refine Fn.of Tryz.func106 rfl (by kernel_rfl) Tryz.ntmps106 Tryz.results106 rfl fun w0 S0 => ?_
 refine wk ?_
 refine s1 (fun h => ?_) (fun h => ?_)
 ·refine wk ?_
  rw [decide_eq_true (by omega)]
  exact ⟨.d rfl (.inl rfl), trivial⟩
 ·refine wk ?_
  rw [decide_eq_false (by omega)]
  exact ⟨.d rfl (.inl rfl), trivial⟩
set_option maxRecDepth 100000 in
set_option maxHeartbeats 2000000 in
theorem great2F (xs : List (List D)) : Fn Tryz.prog 108 [.d (.l xs)] [.d (.v (.bool (decide (32 < xs.length))))] := by
 refine Fn.of Tryz.func108 rfl (by kernel_rfl) Tryz.ntmps108 Tryz.results108 rfl fun w0 S0 => ?_
 refine wk ?_
 refine s1 (fun h => ?_) (fun h => ?_)
 ·refine wk ?_
  rw [decide_eq_true (by omega)]
  exact ⟨.d rfl (.inl rfl), trivial⟩
 ·refine wk ?_
  rw [decide_eq_false (by omega)]
  exact ⟨.d rfl (.inl rfl), trivial⟩
theorem hasRow (W : List (List Rat)) (h : W.length ≤ 1000000000) : Fn Tryz.prog 105 [.d (rowsD (W.map enRs)), .d (.v (.func (.func 106) #[] #[]))] [.d (.v (.bool (W.any fun r => decide (32 < r.length))))] := by
 have h1 := (hasR (W.map enRs) (fun x => decide (32 < lenD x)) (.func (.func 106) #[] #[]) (by simpa using h)).fn fun w x hx => by
  obtain ⟨r, _, rfl⟩ := List.mem_map.1 hx
  exact (great1F (r.map enR)).fv w
 rw [List.any_map] at h1
 simpa only [Function.comp_def, len_Rs] using h1
theorem hasGrp (W : List (List Int)) (h : W.length ≤ 1000000000) : Fn Tryz.prog 107 [.d (rowsD (W.map enIs)), .d (.v (.func (.func 108) #[] #[]))] [.d (.v (.bool (W.any fun r => decide (32 < r.length))))] := by
 have h1 := (hasG (W.map enIs) (fun x => decide (32 < lenD x)) (.func (.func 108) #[] #[]) (by simpa using h)).fn fun w x hx => by
  obtain ⟨r, _, rfl⟩ := List.mem_map.1 hx
  exact (great2F (r.map fun v => [.v (.int .i64 v)])).fv w
 rw [List.any_map] at h1
 simpa only [Function.comp_def, len_Is] using h1
set_option maxRecDepth 100000 in
set_option maxHeartbeats 4000000 in
theorem greatF (n : Int) (ls : List LN) : Fn Tryz.prog 52 [.g (enNet n ls)] [.d (.v (.bool (greatB n ls)))] := by
 refine Fn.of Tryz.func52 rfl (by kernel_rfl) Tryz.ntmps52 Tryz.results52 rfl fun w0 S0 => ?_
 refine wk ?_
 refine s1 (fun h1 => ?_) (fun h1 => ?_)
 ·have hr : greatB n ls = true := by unfold greatB; rw [decide_eq_true h1]; rfl
  refine wk ?_
  rw [hr]
  exact ⟨.d rfl (.inl rfl), trivial⟩
 refine wk ?_
 refine s1 (fun h2 => ?_) (fun h2 => ?_)
 ·have hr : greatB n ls = true := by unfold greatB; rw [decide_eq_true (p := 16 < ls.length) (by omega), Bool.or_true]; rfl
  refine wk ?_
  rw [hr]
  exact ⟨.d rfl (.inl rfl), trivial⟩
 refine wk ?_
 have hg : greatB n ls = ls.any bigL := by unfold greatB; rw [decide_eq_false h1, decide_eq_false (p := 16 < ls.length) (by omega)]; rfl
 rw [hg]
 refine AC.loop (X := Nat) (fun i => ⟨[(15, .d (.l (ls.map enLN))), (16, .d (.v (.int .i64 (ls.length : Int)))), (17, .d (.v (.int .i64 (i : Int))))], []⟩) (fun i => i ≤ ls.length ∧ ∀ l ∈ ls.take i, bigL l = false) (fun i => ls.length - i) 0 ⟨Nat.zero_le _, by simp⟩ ⟨rfl, rfl, rfl, trivial⟩ trivial ?_
 intro i ⟨hi, hb⟩
 refine wk ?_
 refine s1 (fun h3 => ?_) (fun h3 => ?_)
 ·have hi' : i < ls.length := by omega
  have hget : ls[i]? = some ls[i] := List.getElem?_eq_getElem hi'
  have hyes : bigL ls[i] = true → ls.any bigL = true := fun h => List.any_eq_true.2 ⟨_, List.getElem_mem hi', h⟩
  have hno : bigL ls[i] = false → ∀ l ∈ ls.take (i + 1), bigL l = false := fun h x hx => by
   rw [List.take_succ_eq_append_getElem hi'] at hx
   rcases List.mem_append.1 hx with hx | hx
   ·exact hb x hx
   ·rw [List.mem_singleton.1 hx]; exact h
  generalize ls[i] = l at hget hyes hno
  have hf : ∀ r, ((decide (l.kind = 1) && (decide (32 < l.W.length) || l.W.any fun r => decide (32 < r.length))) || (decide (l.kind = 3) && (decide (32 < l.G.length) || l.G.any fun r => decide (32 < r.length)))) = r → (if r then ls.any bigL = true else ∀ l ∈ ls.take (i + 1), bigL l = false) := fun r h => by
   have h : bigL l = r := h
   cases r
   ·exact hno h
   ·exact hyes h
  clear hyes hno
  have hwl : (l.W.map enRs).length = l.W.length := List.length_map ..
  have hgl : (l.G.map enIs).length = l.G.length := List.length_map ..
  refine wk ?_
  refine s1 (fun h4 => ?_) (fun h4 => ?_)
  ·rw [decide_eq_true h4, decide_eq_false (p := l.kind = 3) (by omega)] at hf
   refine wk ?_
   refine s1 (fun h5 => ?_) (fun h5 => ?_)
   ·have hr := hf true (by rw [decide_eq_true (p := 32 < l.W.length) (by omega)]; simp)
    refine wk ?_
    rw [if_pos rfl] at hr
    rw [hr]
    exact ⟨.d rfl (.inl rfl), trivial⟩
   ·refine wk ?_
    refine c1 (hasRow l.W (by omega)) ?_
    have hf2 := hf
    rw [decide_eq_false (p := 32 < l.W.length) (by omega)] at hf2
    cases ha : l.W.any fun r => decide (32 < r.length) with
    | true =>
     have hr := hf2 true (by rw [ha]; simp)
     refine wk ?_
     rw [if_pos rfl] at hr
     rw [hr]
     exact ⟨.d rfl (.inl rfl), trivial⟩
    | false =>
     have hr := hf2 false (by rw [ha]; simp)
     refine wk ?_
     exact ⟨i + 1, ⟨by omega, hr⟩, by omega, ⟨rfl, rfl, rfl, trivial⟩, trivial⟩
  ·refine wk ?_
   refine s1 (fun h5 => ?_) (fun h5 => ?_)
   ·rw [decide_eq_false h4, decide_eq_true h5] at hf
    refine wk ?_
    refine s1 (fun h5 => ?_) (fun h5 => ?_)
    ·have hr := hf true (by rw [decide_eq_true (p := 32 < l.G.length) (by omega)]; simp)
     refine wk ?_
     rw [if_pos rfl] at hr
     rw [hr]
     exact ⟨.d rfl (.inl rfl), trivial⟩
    ·refine wk ?_
     refine c1 (hasGrp l.G (by omega)) ?_
     have hf2 := hf
     rw [decide_eq_false (p := 32 < l.G.length) (by omega)] at hf2
     cases ha : l.G.any fun r => decide (32 < r.length) with
     | true =>
      have hr := hf2 true (by rw [ha]; simp)
      refine wk ?_
      rw [if_pos rfl] at hr
      rw [hr]
      exact ⟨.d rfl (.inl rfl), trivial⟩
     | false =>
      have hr := hf2 false (by rw [ha]; simp)
      refine wk ?_
      exact ⟨i + 1, ⟨by omega, hr⟩, by omega, ⟨rfl, rfl, rfl, trivial⟩, trivial⟩
   ·have hr := hf false (by rw [decide_eq_false h4, decide_eq_false h5]; simp)
    refine wk ?_
    exact ⟨i + 1, ⟨by omega, hr⟩, by omega, ⟨rfl, rfl, rfl, trivial⟩, trivial⟩
 ·rw [List.take_of_length_le (by omega)] at hb
  have hr : ls.any bigL = false := List.any_eq_false.2 fun x hx => by rw [hb x hx]; decide
  refine wk ?_
  rw [hr]
  exact ⟨.d rfl (.inl rfl), trivial⟩
end Go.Proofs.YthdkkpocihkgbaaGreatDoor
