/-
  The law attestlaw15: its own functions.
-/
import Derived.Test.YthdkkpocihkgbaaGreatDoorNtK
namespace Go.Proofs.YthdkkpocihkgbaaGreatDoor
open Go.RowKit
attribute [local irreducible] AC Do St
/-- What the document's affine layer answers. -/
def affD (l : LN) (x : List Rat) : List Rat := (l.W.zip l.B).map fun p => dotT 0 p.1 x p.1.length + p.2
set_option maxRecDepth 100000 in
set_option maxHeartbeats 4000000 in
theorem stepDA {k m : Nat} (l : LN) (x : List Rat) (h1 : l.kind = 1) (hk0 : 0 < k) (hWl : l.W.length ≤ 32) (hB : l.B.length = l.W.length) (hr : ∀ r ∈ l.W, r.length = x.length) (hx : x.length ≤ 1000) (hbw : ∀ r ∈ l.W, ∀ q ∈ r, Bd k q) (hbb : ∀ q ∈ l.B, Bd k q) (hbx : ∀ q ∈ x, Bd m q) (hk : k + (x.length + 1) * (k + m + 1) ≤ 50000000) :
    Fn Tryz.prog 26 [.g (enLD l), .d (enQs x)] [.d (enQs (affD l x))] := by
  have hal : (affD l x).length = l.W.length := by simp [affD]; omega
  refine Fn.of Tryz.func26 rfl (by kernel_rfl) Tryz.ntmps26 Tryz.results26 rfl fun w0 S0 => ?_
  refine wk ?_
  refine AC.loop (X := Nat) (fun i => ⟨[(1, .d (enQs x)), (2, .p 2 0), (5, .r 16 i), (22, .d (rowsD (l.W.map enQs))), (23, .d (.v (.int .i64 ((l.W.map enQs).length : Int)))), (24, .d (.v (.int .i64 (i : Int))))], [(16, .row i 136 3 (((affD l x).take i).map enQ)), (2, .box 62 ((enLD l).map .d))]⟩) (fun i => i ≤ l.W.length) (fun i => l.W.length - i) 0 (Nat.zero_le _) ⟨rfl, rfl, rfl, rfl, rfl, rfl, trivial⟩ ⟨rfl, rfl, trivial⟩ ?_
  intro i hi
  have hwl : (l.W.map enQs).length = l.W.length := List.length_map ..
  dsimp only
  refine wk ?_
  refine s1 (fun h3 => ?_) (fun h3 => ?_)
  · have hi' : i < l.W.length := by omega
    have hget : (l.W.map enQs)[i]? = some (enQs l.W[i]) := by rw [List.getElem?_map, List.getElem?_eq_getElem hi']; rfl
    have hgb : l.B[i]? = some l.B[i] := List.getElem?_eq_getElem (by omega)
    have htk : (affD l x).take (i + 1) = (affD l x).take i ++ [dotT 0 l.W[i] x l.W[i].length + l.B[i]] := by
      rw [List.take_succ_eq_append_getElem (by omega)]
      simp [affD]
    have hrl := hr _ (List.getElem_mem hi')
    have hb1 := hbw _ (List.getElem_mem hi')
    have hb2 := hbb _ (List.getElem_mem (show i < l.B.length by omega))
    generalize l.W[i] = r at hget htk hrl hb1
    generalize l.B[i] = b at hgb htk hb2
    refine wk ?_
    refine c1 (qInt 0 (by decide) (by decide)) ?_
    refine wk ?_
    refine AC.loop (X := Nat) (fun j => ⟨[(6, .d (.v (.int .i64 (i : Int)))), (7, .p 7 0), (29, .d (.v (.int .i64 (x.length : Int)))), (30, .d (.v (.int .i64 (j : Int)))), (1, .d (enQs x)), (2, .p 2 0), (5, .r 16 i), (22, .d (rowsD (l.W.map enQs))), (23, .d (.v (.int .i64 ((l.W.map enQs).length : Int)))), (24, .d (.v (.int .i64 (i : Int))))], [(7, .box 136 ((enQ (dotT 0 r x j)).map .d)), (16, .row i 136 3 (((affD l x).take i).map enQ)), (2, .box 62 ((enLD l).map .d))]⟩) (fun j => j ≤ x.length) (fun j => x.length - j) 0 (Nat.zero_le _) ⟨rfl, rfl, rfl, rfl, rfl, rfl, rfl, rfl, rfl, rfl, trivial⟩ ⟨rfl, rfl, rfl, trivial⟩ ?_
    intro j hj
    dsimp only
    have hz : Bd k (0 : Rat) := Bd.zero hk0
    have hbd := dotT_bd hz hb1 hbx j (by omega) (by omega)
    have hm : j * (k + m + 1) ≤ x.length * (k + m + 1) := Nat.mul_le_mul_right _ hj
    rw [Nat.succ_mul] at hk
    refine wk ?_
    refine s1 (fun h4 => ?_) (fun h4 => ?_)
    · have hj' : j < x.length := by omega
      have hgr : r[j]? = some r[j] := List.getElem?_eq_getElem (by omega)
      have hgx : x[j]? = some x[j] := List.getElem?_eq_getElem hj'
      have hd := dotT_succ (b := 0) hgr hgx
      have q1 := hb1 _ (List.getElem_mem (show j < r.length by omega))
      have q2 := hbx _ (List.getElem_mem hj')
      generalize r[j] = u at hgr hd q1
      generalize x[j] = v at hgx hd q2
      have f1 := qMul q1 q2 (by omega)
      have f2 := qAdd hbd (q1.mul q2) (by omega)
      clear hm
      generalize dotT 0 r x j = a at hd f2 ⊢
      refine wk ?_
      refine c1 f1 ?_
      refine c1 f2 ?_
      refine wk ?_
      exact ⟨j + 1, hj', by omega, ⟨rfl, rfl, rfl, rfl, rfl, rfl, rfl, rfl, rfl, rfl, trivial⟩, ⟨by dsimp only; rw [hd]; rfl, rfl, rfl, trivial⟩⟩
    · obtain rfl : j = x.length := by omega
      have hml : (((affD l x).take i).map enQ).length = i := by rw [List.length_map, List.length_take]; omega
      rw [hrl] at htk
      have f3 := qAdd hbd hb2 (by omega)
      generalize dotT 0 r x x.length = a at htk f3 ⊢
      refine wk ?_
      refine c1 f3 ?_
      refine wk ?_
      exact ⟨i + 1, hi', by omega, ⟨rfl, rfl, rfl, rfl, rfl, rfl, trivial⟩, ⟨by dsimp only; rw [htk, List.map_append]; rfl, rfl, trivial⟩⟩
  · rw [List.take_of_length_le (by omega)]
    refine wk ?_
    exact ⟨.d rfl ⟨_, _, rfl⟩, trivial⟩
def cutR (q : Rat) : Rat := if sgnR q < 0 then 0 else q
def reluD (x : List Rat) : List Rat := x.map cutR
set_option maxRecDepth 100000 in
set_option maxHeartbeats 4000000 in
theorem stepDR (l : LN) (x : List Rat) (h1 : l.kind = 2) (hx : x.length ≤ 1000000) :
    Fn Tryz.prog 26 [.g (enLD l), .d (enQs x)] [.d (enQs (reluD x))] := by
  have hal : (reluD x).length = x.length := by simp [reluD]
  refine Fn.of Tryz.func26 rfl (by kernel_rfl) Tryz.ntmps26 Tryz.results26 rfl fun w0 S0 => ?_
  refine wk ?_
  refine AC.loop (X := Nat) (fun i => ⟨[(5, .r 16 i), (62, .d (enQs x)), (63, .d (.v (.int .i64 (x.length : Int)))), (64, .d (.v (.int .i64 (i : Int))))], [(16, .row i 136 3 (((reluD x).take i).map enQ))]⟩) (fun i => i ≤ x.length) (fun i => x.length - i) 0 (Nat.zero_le _) ⟨rfl, rfl, rfl, rfl, trivial⟩ ⟨rfl, trivial⟩ ?_
  intro i hi
  dsimp only
  refine wk ?_
  refine s1 (fun h3 => ?_) (fun h3 => ?_)
  · have hi' : i < x.length := by omega
    have hget : x[i]? = some x[i] := List.getElem?_eq_getElem hi'
    have htk : (reluD x).take (i + 1) = (reluD x).take i ++ [cutR x[i]] := by
      rw [List.take_succ_eq_append_getElem (by omega)]
      simp [reluD]
    have hml : (((reluD x).take i).map enQ).length = i := by rw [List.length_map, List.length_take]; omega
    generalize x[i] = q at hget htk
    unfold cutR at htk
    refine wk ?_
    refine c1 (qSign q) ?_
    refine wk ?_
    refine s1 (fun h4 => ?_) (fun h4 => ?_)
    · rw [if_pos h4] at htk
      refine wk ?_
      refine c1 (qInt 0 (by decide) (by decide)) ?_
      refine wk ?_
      exact ⟨i + 1, hi', by omega, ⟨rfl, rfl, rfl, rfl, trivial⟩, ⟨by dsimp only; rw [htk, List.map_append]; rfl, trivial⟩⟩
    · rw [if_neg h4] at htk
      refine wk ?_
      exact ⟨i + 1, hi', by omega, ⟨rfl, rfl, rfl, rfl, trivial⟩, ⟨by dsimp only; rw [htk, List.map_append]; rfl, trivial⟩⟩
  · rw [List.take_of_length_le (by omega)]
    refine wk ?_
    exact ⟨.d rfl ⟨_, _, rfl⟩, trivial⟩
/-- The greater of two: the second where it is greater. -/
def upR (a q : Rat) : Rat := if 0 < sgnR (q - a) then q else a
theorem Bd.upR {k : Nat} {p q : Rat} (h1 : Bd k p) (h2 : Bd k q) : Bd k (upR p q) := by
  unfold Go.Proofs.YthdkkpocihkgbaaGreatDoor.upR
  split
  · exact h2
  · exact h1
def gD (x : List Rat) (g : List Int) (j : Nat) : Rat := (g.take j).foldl (fun a v => upR a (getI x v)) (getI x (g.headD 0))
def poolD (l : LN) (x : List Rat) : List Rat := l.G.map fun g => gD x g g.length
theorem gD_succ {x : List Rat} {g : List Int} {j : Nat} {v : Int} (h : g[j]? = some v) : gD x g (j + 1) = upR (gD x g j) (getI x v) := by
  obtain ⟨a1, a2⟩ := List.getElem?_eq_some_iff.1 h
  unfold gD
  rw [List.take_succ_eq_append_getElem a1, List.foldl_append, a2]
  rfl
theorem gD_bd {m : Nat} {x : List Rat} (hbx : ∀ q ∈ x, Bd m q) {g : List Int} (h0 : g ≠ []) (hg : ∀ v ∈ g, 0 ≤ v ∧ v < x.length) (j : Nat) : Bd m (gD x g j) := by
  have hI : ∀ v ∈ g, Bd m (getI x v) := fun v hv => by
    obtain ⟨a, b⟩ := hg v hv
    have := getI_bd hbx (n := v.toNat) (by omega)
    rwa [Int.toNat_of_nonneg a] at this
  unfold gD
  have : ∀ (ys : List Int) (a : Rat), (∀ v ∈ ys, v ∈ g) → Bd m a → Bd m (ys.foldl (fun a v => upR a (getI x v)) a) := by
    intro ys
    induction ys with
    | nil => intro a _ h; exact h
    | cons y ys ih => intro a hy h; exact ih _ (fun v hv => hy v (List.mem_cons_of_mem _ hv)) (Bd.upR h (hI y (hy y List.mem_cons_self)))
  refine this _ _ (fun v hv => List.mem_of_mem_take hv) ?_
  cases g with
  | nil => exact absurd rfl h0
  | cons v r => exact hI v List.mem_cons_self
set_option maxRecDepth 100000 in
set_option maxHeartbeats 4000000 in
theorem stepDG {m : Nat} (l : LN) (x : List Rat) (h1 : l.kind = 3) (hGl : l.G.length ≤ 32) (hgl : ∀ g ∈ l.G, g.length ≤ 32 ∧ g ≠ [] ∧ ∀ v ∈ g, 0 ≤ v ∧ v < x.length) (hbx : ∀ q ∈ x, Bd m q) (hk : m ≤ 10000000) :
    Fn Tryz.prog 26 [.g (enLD l), .d (enQs x)] [.d (enQs (poolD l x))] := by
  have hal : (poolD l x).length = l.G.length := by simp [poolD]
  refine Fn.of Tryz.func26 rfl (by kernel_rfl) Tryz.ntmps26 Tryz.results26 rfl fun w0 S0 => ?_
  refine wk ?_
  refine AC.loop (X := Nat) (fun i => ⟨[(1, .d (enQs x)), (5, .r 16 i), (80, .d (rowsD (l.G.map enIs))), (81, .d (.v (.int .i64 ((l.G.map enIs).length : Int)))), (82, .d (.v (.int .i64 (i : Int))))], [(16, .row i 136 3 (((poolD l x).take i).map enQ))]⟩) (fun i => i ≤ l.G.length) (fun i => l.G.length - i) 0 (Nat.zero_le _) ⟨rfl, rfl, rfl, rfl, rfl, trivial⟩ ⟨rfl, trivial⟩ ?_
  intro i hi
  have hwl : (l.G.map enIs).length = l.G.length := List.length_map ..
  dsimp only
  refine wk ?_
  refine s1 (fun h3 => ?_) (fun h3 => ?_)
  · have hi' : i < l.G.length := by omega
    have hget : (l.G.map enIs)[i]? = some (enIs l.G[i]) := by rw [List.getElem?_map, List.getElem?_eq_getElem hi']; rfl
    have htk : (poolD l x).take (i + 1) = (poolD l x).take i ++ [gD x l.G[i] l.G[i].length] := by
      rw [List.take_succ_eq_append_getElem (by omega)]
      simp [poolD]
    obtain ⟨g1, g2, g3⟩ := hgl _ (List.getElem_mem hi')
    have hml : (((poolD l x).take i).map enQ).length = i := by rw [List.length_map, List.length_take]; omega
    generalize l.G[i] = g at hget htk g1 g2 g3
    obtain ⟨v0, hv0⟩ : ∃ v0 : Nat, g[0]? = some (v0 : Int) ∧ v0 < x.length := by
      cases g with
      | nil => exact absurd rfl g2
      | cons v r =>
        obtain ⟨a, b⟩ := g3 v List.mem_cons_self
        exact ⟨v.toNat, by rw [Int.toNat_of_nonneg a]; rfl, by omega⟩
    obtain ⟨hv0, hv1⟩ := hv0
    have hgx := getI_of hv1
    have hz : getI x (v0 : Int) = gD x g 0 := by
      cases g with
      | nil => exact absurd rfl g2
      | cons v r =>
        cases hv0
        rfl
    rw [hz] at hgx
    refine wk ?_
    refine AC.loop (X := Nat) (fun j => ⟨[(13, .p 13 0), (92, .d (enIs g)), (93, .d (.v (.int .i64 (g.length : Int)))), (94, .d (.v (.int .i64 (j : Int)))), (1, .d (enQs x)), (5, .r 16 i), (80, .d (rowsD (l.G.map enIs))), (81, .d (.v (.int .i64 ((l.G.map enIs).length : Int)))), (82, .d (.v (.int .i64 (i : Int))))], [(13, .box 136 ((enQ (gD x g j)).map .d)), (16, .row i 136 3 (((poolD l x).take i).map enQ))]⟩) (fun j => j ≤ g.length) (fun j => g.length - j) 0 (Nat.zero_le _) ⟨rfl, rfl, rfl, rfl, rfl, rfl, rfl, rfl, rfl, trivial⟩ ⟨rfl, rfl, trivial⟩ ?_
    clear hgx hv0 hv1 hz
    intro j hj
    dsimp only
    refine wk ?_
    refine s1 (fun h4 => ?_) (fun h4 => ?_)
    · have hj' : j < g.length := by omega
      have hgr : g[j]? = some g[j] := List.getElem?_eq_getElem hj'
      obtain ⟨a, b⟩ := g3 _ (List.getElem_mem hj')
      obtain ⟨v, hv⟩ : ∃ v : Nat, g[j] = (v : Int) := ⟨g[j].toNat, by omega⟩
      rw [hv] at hgr b
      have hv1 : v < x.length := by omega
      have hd := gD_succ (x := x) hgr
      have hbd := gD_bd hbx g2 g3 j
      have hgx := getI_of hv1
      have f1 := qCmp (getI_bd hbx hv1) hbd (by omega)
      generalize getI x (v : Int) = q at hgx hd f1
      generalize gD x g j = a at hd f1 ⊢
      unfold upR at hd
      refine wk ?_
      refine c1 f1 ?_
      refine wk ?_
      refine s1 (fun h5 => ?_) (fun h5 => ?_)
      · rw [if_pos h5] at hd
        refine wk ?_
        exact ⟨j + 1, hj', by omega, ⟨rfl, rfl, rfl, rfl, rfl, rfl, rfl, rfl, rfl, trivial⟩, ⟨by dsimp only; rw [hd]; rfl, rfl, trivial⟩⟩
      · rw [if_neg h5] at hd
        refine wk ?_
        exact ⟨j + 1, hj', by omega, ⟨rfl, rfl, rfl, rfl, rfl, rfl, rfl, rfl, rfl, trivial⟩, ⟨by dsimp only; rw [hd]; rfl, rfl, trivial⟩⟩
    · obtain rfl : j = g.length := by omega
      refine wk ?_
      exact ⟨i + 1, hi', by omega, ⟨rfl, rfl, rfl, rfl, rfl, trivial⟩, ⟨by dsimp only; rw [htk, List.map_append]; rfl, trivial⟩⟩
  · rw [List.take_of_length_le (by omega)]
    refine wk ?_
    exact ⟨.d rfl ⟨_, _, rfl⟩, trivial⟩
end Go.Proofs.YthdkkpocihkgbaaGreatDoor
