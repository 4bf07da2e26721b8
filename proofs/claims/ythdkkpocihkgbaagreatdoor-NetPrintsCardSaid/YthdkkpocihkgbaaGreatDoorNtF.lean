/-
 Package net by plain data.
-/
import Derived.Test.YthdkkpocihkgbaaGreatDoorNtE
namespace Go.Proofs.YthdkkpocihkgbaaGreatDoor
open Go.RowKit
attribute [local irreducible] AC Do St
def maxR (p q : Rat) : Rat := if 0 ≤ sgnR (p - q) then p else q
theorem Bd.maxR {k : Nat} {p q : Rat} (h1 : Bd k p) (h2 : Bd k q) : Bd k (maxR p q) := by
 unfold Go.Proofs.YthdkkpocihkgbaaGreatDoor.maxR
 split
 ·exact h1
 ·exact h2
set_option maxRecDepth 100000 in
set_option maxHeartbeats 2000000 in
theorem maxF {k m : Nat} {p q : Rat} (h1 : Bd k p) (h2 : Bd m q) (hk : k + m ≤ 50000000) : Fn Tryz.prog 116 [.g (enR p), .g (enR q)] [.g (enR (maxR p q))] := by
 have hc := ratCmp h1 h2 hk
 refine Fn.of Tryz.func116 rfl (by kernel_rfl) Tryz.ntmps116 Tryz.results116 rfl fun w0 S0 => ?_
 unfold maxR
 refine wk ?_
 refine c1 hc ?_
 refine wk ?_
 refine s1 (fun h => ?_) (fun h => ?_)
 ·refine wk ?_
  rw [if_pos h]
  exact ⟨.cn rfl rfl inferInstance rfl ⟨.inl rfl, .inl rfl, .inl rfl, trivial⟩, trivial⟩
 ·refine wk ?_
  rw [if_neg h]
  exact ⟨.cn rfl rfl inferInstance rfl ⟨.inl rfl, .inl rfl, .inl rfl, trivial⟩, trivial⟩
def dotT (b : Rat) (r x : List Rat) (j : Nat) : Rat := ((r.zip x).take j).foldl (fun a p => a + p.1 * p.2) b
theorem dotT_succ {b : Rat} {r x : List Rat} {j : Nat} {u v : Rat} (h1 : r[j]? = some u) (h2 : x[j]? = some v) : dotT b r x (j + 1) = dotT b r x j + u * v := by
 obtain ⟨a1, a2⟩ := List.getElem?_eq_some_iff.1 h1
 obtain ⟨b1, b2⟩ := List.getElem?_eq_some_iff.1 h2
 have hl : j < (r.zip x).length := by rw [List.length_zip]; omega
 unfold dotT
 rw [List.take_succ_eq_append_getElem hl, List.foldl_append]
 simp [a2, b2]
theorem dotT_bd {k m : Nat} {b : Rat} {r x : List Rat} (hb : Bd k b) (hr : ∀ q ∈ r, Bd k q) (hx : ∀ q ∈ x, Bd m q) (j : Nat) (hj : j ≤ r.length) (hj2 : j ≤ x.length) : Bd (k + j * (k + m + 1)) (dotT b r x j) := by
 induction j with
 | zero => simpa [dotT] using hb
 | succ j ih =>
  have e1 : r[j]? = some r[j] := List.getElem?_eq_getElem (by omega)
  have e2 : x[j]? = some x[j] := List.getElem?_eq_getElem (by omega)
  rw [dotT_succ e1 e2]
  have h1 := (ih (by omega) (by omega)).add ((hr _ (List.getElem_mem (by omega : j < r.length))).mul (hx _ (List.getElem_mem (by omega : j < x.length))))
  refine h1.mono ?_
  rw [Nat.succ_mul]
  omega
/-- What an affine layer answers. -/
def affN (l : LN) (x : List Rat) : List Rat := (l.W.zip l.B).map fun p => dotT p.2 p.1 x p.1.length
set_option maxRecDepth 100000 in
set_option maxHeartbeats 4000000 in
theorem stepA {k m : Nat} (l : LN) (x : List Rat) (h1 : l.kind = 1) (hWl : l.W.length ≤ 32) (hB : l.B.length = l.W.length) (hr : ∀ r ∈ l.W, r.length = x.length) (hx : x.length ≤ 1000) (hbw : ∀ r ∈ l.W, ∀ q ∈ r, Bd k q) (hbb : ∀ q ∈ l.B, Bd k q) (hbx : ∀ q ∈ x, Bd m q) (hk : k + (x.length + 1) * (k + m + 1) ≤ 50000000) :
  Fn Tryz.prog 57 [.g (enLN l), .d (enRs x)] [.d (enRs (affN l x))] := by
 have hal : (affN l x).length = l.W.length := by simp [affN]; omega
 refine Fn.of Tryz.func57 rfl (by kernel_rfl) Tryz.ntmps57 Tryz.results57 rfl fun w0 S0 => ?_
 refine wk ?_
 refine AC.rowVar 5 102 119 3 rfl rfl ?_
 refine AC.loop (X := Nat) (fun i => ⟨[(1, .d (enRs x)), (2, .p 2 0), (5, .r 102 i), (54, .d (rowsD (l.W.map enRs))), (55, .d (.v (.int .i64 ((l.W.map enRs).length : Int)))), (56, .d (.v (.int .i64 (i : Int))))], [(102, .row i 119 3 (((affN l x).take i).map enR)), (2, .box 30 ((enLN l).map .d))]⟩) (fun i => i ≤ l.W.length) (fun i => l.W.length - i) 0 (Nat.zero_le _) ⟨rfl, rfl, rfl, rfl, rfl, rfl, trivial⟩ ⟨rfl, rfl, trivial⟩ ?_
 intro i hi
 have hwl : (l.W.map enRs).length = l.W.length := List.length_map ..
 dsimp only
 refine wk ?_
 refine s1 (fun h3 => ?_) (fun h3 => ?_)
 ·have hi' : i < l.W.length := by omega
  have hget : (l.W.map enRs)[i]? = some (enRs l.W[i]) := by rw [List.getElem?_map, List.getElem?_eq_getElem hi']; rfl
  have hgb : l.B[i]? = some l.B[i] := List.getElem?_eq_getElem (by omega)
  have htk : (affN l x).take (i + 1) = (affN l x).take i ++ [dotT l.B[i] l.W[i] x l.W[i].length] := by
   rw [List.take_succ_eq_append_getElem (by omega)]
   simp [affN]
  have hrl := hr _ (List.getElem_mem hi')
  have hb1 := hbw _ (List.getElem_mem hi')
  have hb2 := hbb _ (List.getElem_mem (show i < l.B.length by omega))
  generalize l.W[i] = r at hget htk hrl hb1
  generalize l.B[i] = b at hgb htk hb2
  refine wk ?_
  refine AC.loop (X := Nat) (fun j => ⟨[(8, .p 8 0), (66, .d (enRs r)), (67, .d (.v (.int .i64 (r.length : Int)))), (68, .d (.v (.int .i64 (j : Int)))), (1, .d (enRs x)), (2, .p 2 0), (5, .r 102 i), (54, .d (rowsD (l.W.map enRs))), (55, .d (.v (.int .i64 ((l.W.map enRs).length : Int)))), (56, .d (.v (.int .i64 (i : Int))))], [(8, .box 119 ((enR (dotT b r x j)).map .d)), (102, .row i 119 3 (((affN l x).take i).map enR)), (2, .box 30 ((enLN l).map .d))]⟩) (fun j => j ≤ r.length) (fun j => r.length - j) 0 (Nat.zero_le _) ⟨rfl, rfl, rfl, rfl, rfl, rfl, rfl, rfl, rfl, rfl, trivial⟩ ⟨rfl, rfl, rfl, trivial⟩ ?_
  intro j hj
  dsimp only
  refine wk ?_
  refine s1 (fun h4 => ?_) (fun h4 => ?_)
  ·have hj' : j < r.length := by omega
   have hgr : r[j]? = some r[j] := List.getElem?_eq_getElem hj'
   have hgx : x[j]? = some x[j] := List.getElem?_eq_getElem (by omega)
   have hd := dotT_succ (b := b) hgr hgx
   have hbd := dotT_bd hb2 hb1 hbx j (by omega) (by omega)
   have q1 := hb1 _ (List.getElem_mem hj')
   have q2 := hbx _ (List.getElem_mem (show j < x.length by omega))
   have hm : (j + 1) * (k + m + 1) ≤ (x.length + 1) * (k + m + 1) := Nat.mul_le_mul_right _ (by omega)
   rw [Nat.succ_mul] at hm
   generalize r[j] = u at hgr hd q1
   generalize x[j] = v at hgx hd q2
   have f1 := ratMul q1 q2 (by omega)
   have f2 := ratAdd hbd (q1.mul q2) (by omega)
   clear hm
   generalize dotT b r x j = a at hd f2 ⊢
   refine wk ?_
   refine c1 f1 ?_
   refine c1 f2 ?_
   refine wk ?_
   exact ⟨j + 1, hj', by omega, ⟨rfl, rfl, rfl, rfl, rfl, rfl, rfl, rfl, rfl, rfl, trivial⟩, ⟨by dsimp only; rw [hd]; rfl, rfl, rfl, trivial⟩⟩
  ·obtain rfl : j = r.length := by omega
   have hml : (((affN l x).take i).map enR).length = i := by rw [List.length_map, List.length_take]; omega
   refine wk ?_
   exact ⟨i + 1, hi', by omega, ⟨rfl, rfl, rfl, rfl, rfl, rfl, trivial⟩, ⟨by dsimp only; rw [htk, List.map_append]; rfl, rfl, trivial⟩⟩
 ·rw [List.take_of_length_le (by omega)]
  refine wk ?_
  exact ⟨.d rfl ⟨_, _, rfl⟩, trivial⟩
def reluN (x : List Rat) : List Rat := x.map fun q => maxR q 0
set_option maxRecDepth 100000 in
set_option maxHeartbeats 4000000 in
theorem stepR {m : Nat} (l : LN) (x : List Rat) (h1 : l.kind = 2) (hx : x.length ≤ 1000000) (hbx : ∀ q ∈ x, Bd m q) (hk : m ≤ 10000000) :
  Fn Tryz.prog 57 [.g (enLN l), .d (enRs x)] [.d (enRs (reluN x))] := by
 refine Fn.of Tryz.func57 rfl (by kernel_rfl) Tryz.ntmps57 Tryz.results57 rfl fun w0 S0 => ?_
 refine wk ?_
 refine AC.rowVar 5 102 119 3 rfl rfl ?_
 refine AC.loop (X := Nat) (fun i => ⟨[(5, .r 102 i), (89, .d (enRs x)), (90, .d (.v (.int .i64 (x.length : Int)))), (91, .d (.v (.int .i64 (i : Int))))], [(102, .row i 119 3 (((reluN x).take i).map enR))]⟩) (fun i => i ≤ x.length) (fun i => x.length - i) 0 (Nat.zero_le _) ⟨rfl, rfl, rfl, rfl, trivial⟩ ⟨rfl, trivial⟩ ?_
 intro i hi
 have hal : (reluN x).length = x.length := by simp [reluN]
 dsimp only
 refine wk ?_
 refine s1 (fun h3 => ?_) (fun h3 => ?_)
 ·have hi' : i < x.length := by omega
  have hget : x[i]? = some x[i] := List.getElem?_eq_getElem hi'
  have htk : (reluN x).take (i + 1) = (reluN x).take i ++ [maxR x[i] 0] := by
   rw [List.take_succ_eq_append_getElem (by omega)]
   simp [reluN]
  have hb := hbx _ (List.getElem_mem hi')
  have hml : (((reluN x).take i).map enR).length = i := by rw [List.length_map, List.length_take]; omega
  generalize x[i] = q at hget htk hb
  have f1 := ratInt 0 (by decide) (by decide)
  have f2 := maxF hb (Bd.zero (k := 1) (by decide)) (by omega)
  refine wk ?_
  refine c1 f1 ?_
  refine c1 f2 ?_
  refine wk ?_
  exact ⟨i + 1, hi', by omega, ⟨rfl, rfl, rfl, rfl, trivial⟩, ⟨by dsimp only; rw [htk, List.map_append]; rfl, trivial⟩⟩
 ·rw [List.take_of_length_le (by omega)]
  refine wk ?_
  exact ⟨.d rfl ⟨_, _, rfl⟩, trivial⟩
def getI (x : List Rat) (v : Int) : Rat := x[v.toNat]?.getD 0
def gT (x : List Rat) (g : List Int) (j : Nat) : Rat := (g.take j).foldl (fun a v => maxR a (getI x v)) (getI x (g.headD 0))
def poolN (l : LN) (x : List Rat) : List Rat := l.G.map fun g => gT x g g.length
theorem getI_of {x : List Rat} {n : Nat} (h : n < x.length) : x[n]? = some (getI x (n : Int)) := by
 unfold getI
 rw [Int.toNat_natCast, List.getElem?_eq_getElem h]
 rfl
theorem getI_bd {m : Nat} {x : List Rat} (hbx : ∀ q ∈ x, Bd m q) {n : Nat} (h : n < x.length) : Bd m (getI x (n : Int)) := hbx _ (List.mem_of_getElem? (getI_of h))
theorem gT_bd {m : Nat} {x : List Rat} (hbx : ∀ q ∈ x, Bd m q) {g : List Int} (h0 : g ≠ []) (hg : ∀ v ∈ g, 0 ≤ v ∧ v < x.length) (j : Nat) : Bd m (gT x g j) := by
 have hI : ∀ v ∈ g, Bd m (getI x v) := fun v hv => by
  obtain ⟨a, b⟩ := hg v hv
  have := getI_bd hbx (n := v.toNat) (by omega)
  rwa [Int.toNat_of_nonneg a] at this
 unfold gT
 have : ∀ (ys : List Int) (a : Rat), (∀ v ∈ ys, v ∈ g) → Bd m a → Bd m (ys.foldl (fun a v => maxR a (getI x v)) a) := by
  intro ys
  induction ys with
  | nil => intro a _ h; exact h
  | cons y ys ih => intro a hy h; exact ih _ (fun v hv => hy v (List.mem_cons_of_mem _ hv)) (Bd.maxR h (hI y (hy y List.mem_cons_self)))
 refine this _ _ (fun v hv => List.mem_of_mem_take hv) ?_
 cases g with
 | nil => exact absurd rfl h0
 | cons v r => exact hI v List.mem_cons_self
theorem gT_succ {x : List Rat} {g : List Int} {j : Nat} {v : Int} (h : g[j]? = some v) : gT x g (j + 1) = maxR (gT x g j) (getI x v) := by
 obtain ⟨a1, a2⟩ := List.getElem?_eq_some_iff.1 h
 unfold gT
 rw [List.take_succ_eq_append_getElem a1, List.foldl_append, a2]
 rfl
set_option maxRecDepth 100000 in
set_option maxHeartbeats 4000000 in
theorem stepG {m : Nat} (l : LN) (x : List Rat) (h1 : l.kind = 3) (hGl : l.G.length ≤ 32) (hgl : ∀ g ∈ l.G, g.length ≤ 32 ∧ g ≠ [] ∧ ∀ v ∈ g, 0 ≤ v ∧ v < x.length) (hbx : ∀ q ∈ x, Bd m q) (hk : m ≤ 10000000) :
  Fn Tryz.prog 57 [.g (enLN l), .d (enRs x)] [.d (enRs (poolN l x))] := by
 have hal : (poolN l x).length = l.G.length := by simp [poolN]
 refine Fn.of Tryz.func57 rfl (by kernel_rfl) Tryz.ntmps57 Tryz.results57 rfl fun w0 S0 => ?_
 refine wk ?_
 refine AC.rowVar 5 102 119 3 rfl rfl ?_
 refine AC.loop (X := Nat) (fun i => ⟨[(1, .d (enRs x)), (5, .r 102 i), (21, .d (rowsD (l.G.map enIs))), (22, .d (.v (.int .i64 ((l.G.map enIs).length : Int)))), (23, .d (.v (.int .i64 (i : Int))))], [(102, .row i 119 3 (((poolN l x).take i).map enR))]⟩) (fun i => i ≤ l.G.length) (fun i => l.G.length - i) 0 (Nat.zero_le _) ⟨rfl, rfl, rfl, rfl, rfl, trivial⟩ ⟨rfl, trivial⟩ ?_
 intro i hi
 have hwl : (l.G.map enIs).length = l.G.length := List.length_map ..
 dsimp only
 refine wk ?_
 refine s1 (fun h3 => ?_) (fun h3 => ?_)
 ·have hi' : i < l.G.length := by omega
  have hget : (l.G.map enIs)[i]? = some (enIs l.G[i]) := by rw [List.getElem?_map, List.getElem?_eq_getElem hi']; rfl
  have htk : (poolN l x).take (i + 1) = (poolN l x).take i ++ [gT x l.G[i] l.G[i].length] := by
   rw [List.take_succ_eq_append_getElem (by omega)]
   simp [poolN]
  obtain ⟨g1, g2, g3⟩ := hgl _ (List.getElem_mem hi')
  have hml : (((poolN l x).take i).map enR).length = i := by rw [List.length_map, List.length_take]; omega
  generalize l.G[i] = g at hget htk g1 g2 g3
  obtain ⟨v0, hv0⟩ : ∃ v0 : Nat, g[0]? = some (v0 : Int) ∧ v0 < x.length := by
   cases g with
   | nil => exact absurd rfl g2
   | cons v r =>
    obtain ⟨a, b⟩ := g3 v List.mem_cons_self
    exact ⟨v.toNat, by rw [Int.toNat_of_nonneg a]; rfl, by omega⟩
  obtain ⟨hv0, hv1⟩ := hv0
  have hgx := getI_of hv1
  have hz : getI x (v0 : Int) = gT x g 0 := by
   cases g with
   | nil => exact absurd rfl g2
   | cons v r =>
    cases hv0
    rfl
  rw [hz] at hgx
  refine wk ?_
  refine AC.loop (X := Nat) (fun j => ⟨[(15, .p 15 0), (33, .d (enIs g)), (34, .d (.v (.int .i64 (g.length : Int)))), (35, .d (.v (.int .i64 (j : Int)))), (1, .d (enRs x)), (5, .r 102 i), (21, .d (rowsD (l.G.map enIs))), (22, .d (.v (.int .i64 ((l.G.map enIs).length : Int)))), (23, .d (.v (.int .i64 (i : Int))))], [(15, .box 119 ((enR (gT x g j)).map .d)), (102, .row i 119 3 (((poolN l x).take i).map enR))]⟩) (fun j => j ≤ g.length) (fun j => g.length - j) 0 (Nat.zero_le _) ⟨rfl, rfl, rfl, rfl, rfl, rfl, rfl, rfl, rfl, trivial⟩ ⟨rfl, rfl, trivial⟩ ?_
  clear hgx hv0 hv1 hz
  intro j hj
  dsimp only
  refine wk ?_
  refine s1 (fun h4 => ?_) (fun h4 => ?_)
  ·have hj' : j < g.length := by omega
   have hgr : g[j]? = some g[j] := List.getElem?_eq_getElem hj'
   obtain ⟨a, b⟩ := g3 _ (List.getElem_mem hj')
   obtain ⟨v, hv⟩ : ∃ v : Nat, g[j] = (v : Int) := ⟨g[j].toNat, by omega⟩
   rw [hv] at hgr b
   have hv1 : v < x.length := by omega
   have hd := gT_succ (x := x) hgr
   have hbd := gT_bd hbx g2 g3 j
   have hgx := getI_of hv1
   have f1 := maxF hbd (getI_bd hbx hv1) (by omega)
   generalize getI x (v : Int) = q at hgx hd f1
   generalize gT x g j = a at hd f1 ⊢
   refine wk ?_
   refine c1 f1 ?_
   refine wk ?_
   exact ⟨j + 1, hj', by omega, ⟨rfl, rfl, rfl, rfl, rfl, rfl, rfl, rfl, rfl, trivial⟩, ⟨by dsimp only; rw [hd]; rfl, rfl, trivial⟩⟩
  ·obtain rfl : j = g.length := by omega
   refine wk ?_
   exact ⟨i + 1, hi', by omega, ⟨rfl, rfl, rfl, rfl, rfl, trivial⟩, ⟨by dsimp only; rw [htk, List.map_append]; rfl, trivial⟩⟩
 ·rw [List.take_of_length_le (by omega)]
  refine wk ?_
  exact ⟨.d rfl ⟨_, _, rfl⟩, trivial⟩
end Go.Proofs.YthdkkpocihkgbaaGreatDoor
