/-
  Packages compact and proof's steps by plain data.
-/
import Derived.Test.YtfijmpmojhlnmaaDoorCmpH
namespace Go.Proofs.YtfijmpmojhlnmaaDoor
open Go.RowKit
attribute [local irreducible] AC Do St
/-- A step's key: its numbers and three texts. -/
structure Ky where
  c1 : Stp → ByteArray
  c2 : Stp → ByteArray
  c3 : Stp → ByteArray
def Ky.kv (K : Ky) (s : Stp) : List Value := [.int .i64 s.rule, .int .i64 s.idx, .string (K.c1 s), .string (K.c2 s), .string (K.c3 s)]
section
variable (kl : Stp → Lit)
/-- Where the first step stands that has this key. -/
noncomputable def fiK (out : List Stp) (k : Lit) : Option Nat := by
  classical
  exact out.findIdx? (fun y => decide (kl y = k))
theorem fiK_some {out : List Stp} {k : Lit} {i : Nat} (h : fiK kl out k = some i) : ∃ h : i < out.length, kl out[i] = k := by
  unfold fiK at h
  rw [List.findIdx?_eq_some_iff_getElem] at h
  obtain ⟨h1, h2, _⟩ := h
  exact ⟨h1, by simpa using h2⟩
theorem fiK_none {out : List Stp} {k : Lit} (h : fiK kl out k = none) : ∀ y ∈ out, kl y ≠ k := fun y hy => by
  unfold fiK at h
  have := List.findIdx?_eq_none_iff.1 h y hy
  simpa using this
noncomputable def shStep (a : List Stp × List Int) (s : Stp) : List Stp × List Int := match fiK kl a.1 (kl (mvS s a.2)) with
  | some i => (a.1, a.2 ++ [(i : Int)])
  | none => (a.1 ++ [mvS s a.2], a.2 ++ [(a.1.length : Int)])
/-- Each step once, and where each step's like stands. -/
noncomputable def share (l : List Stp) : List Stp × List Int := l.foldl (shStep kl) ([], [])
theorem share_succ {l : List Stp} {i : Nat} {s : Stp} (h : l[i]? = some s) : share kl (l.take (i + 1)) = shStep kl (share kl (l.take i)) s := by
  obtain ⟨h1, h2⟩ := List.getElem?_eq_some_iff.1 h
  unfold share
  rw [List.take_succ_eq_append_getElem h1, List.foldl_append, h2]
  rfl
/-- What is known of a list of steps without two alike. -/
structure Shd (a : List Stp × List Int) (n : Nat) : Prop where
  len : a.2.length = n
  out : a.1.length ≤ n
  nd : (a.1.map kl).Nodup
  rg : ∀ k ∈ a.2, 0 ≤ k ∧ k < (a.1.length : Int)
theorem Shd.nil : Shd kl ([], []) 0 := ⟨rfl, Nat.le_refl _, List.nodup_nil, by simp⟩
variable {kl}
theorem Shd.found {a : List Stp × List Int} {n i : Nat} (h : Shd kl a n) (hi : i < a.1.length) : Shd kl (a.1, a.2 ++ [(i : Int)]) (n + 1) := by
  refine ⟨by simp [h.len], Nat.le_succ_of_le h.out, h.nd, fun k hk => ?_⟩
  rcases List.mem_append.1 hk with hk | hk
  · exact h.rg k hk
  · rw [List.mem_singleton.1 hk]; simp only; omega
theorem Shd.new {a : List Stp × List Int} {n : Nat} {x : Stp} (h : Shd kl a n) (hx : ∀ y ∈ a.1, kl y ≠ kl x) : Shd kl (a.1 ++ [x], a.2 ++ [(a.1.length : Int)]) (n + 1) := by
  refine ⟨by simp [h.len], by have := h.out; simp; omega, ?_, fun k hk => ?_⟩
  · rw [List.map_append, List.nodup_append]
    refine ⟨h.nd, by simp, fun a ha b hb => ?_⟩
    obtain ⟨y, hy, rfl⟩ := List.mem_map.1 ha
    rw [List.map_cons, List.map_nil, List.mem_singleton] at hb
    rw [hb]
    exact hx y hy
  · simp only [List.length_append, List.length_cons, List.length_nil]
    rcases List.mem_append.1 hk with hk | hk
    · have := h.rg k hk; omega
    · rw [List.mem_singleton.1 hk]; omega
/-- The map from keys to places. -/
def mapK : List Lit → Nat → DataW Unit → DataW Unit
  | [], _, M => M
  | k :: r, n, M => mapK r (n + 1) (M.put k (.lit (.int .i64 n)))
theorem mapK_snoc : ∀ (ks : List Lit) (k : Lit) (n : Nat) (M : DataW Unit), mapK (ks ++ [k]) n M = (mapK ks n M).put k (.lit (.int .i64 ((n + ks.length : Nat) : Int)))
  | [], k, n, M => rfl
  | x :: r, k, n, M => by
    rw [List.cons_append, mapK, mapK_snoc r k (n + 1)]
    rw [mapK, List.length_cons, show n + 1 + r.length = n + (r.length + 1) by omega]
theorem mapK_isMap : ∀ (ks : List Lit) (n : Nat) (M : DataW Unit), Go.Maps.IsMap M → Go.Maps.IsMap (mapK ks n M)
  | [], _, _, h => h
  | k :: r, n, _, h => mapK_isMap r (n + 1) _ (h.put k _)
theorem mapK_miss : ∀ (ks : List Lit) (n : Nat) (M : DataW Unit) (k : Lit), k ∉ ks → Go.Maps.has (mapK ks n M) k = Go.Maps.has M k ∧ ∀ z, (mapK ks n M).atKey k z = M.atKey k z
  | [], _, _, _, _ => ⟨rfl, fun _ => rfl⟩
  | x :: r, n, M, k, h => by
    have hne : k ≠ x := fun e => h (by simp [e])
    obtain ⟨h1, h2⟩ := mapK_miss r (n + 1) (M.put x (.lit (.int .i64 n))) k fun e => h (by simp [e])
    exact ⟨h1.trans (Go.Maps.has_put_other hne _), fun z => (h2 z).trans (Go.Maps.atKey_put_other hne _ _)⟩
theorem mapK_hit : ∀ (ks : List Lit) (n : Nat) (M : DataW Unit) (i : Nat) (k : Lit), Go.Maps.IsMap M → WideAt.IsKeyLit k → ks.Nodup → ks[i]? = some k → Go.Maps.has (mapK ks n M) k = true ∧ ∀ z, (mapK ks n M).atKey k z = .lit (.int .i64 ((n + i : Nat) : Int))
  | [], _, _, _, _, _, _, _, h => by simp at h
  | x :: r, n, M, 0, k, hM, hk, hnd, h => by
    simp only [List.getElem?_cons_zero, Option.some.injEq] at h
    subst h
    obtain ⟨h1, h2⟩ := mapK_miss r (n + 1) (M.put x (.lit (.int .i64 n))) x (List.nodup_cons.1 hnd).1
    exact ⟨h1.trans (Go.Maps.has_put_same hM hk _), fun z => (h2 z).trans (Go.Maps.atKey_put_same hM hk _ _)⟩
  | x :: r, n, M, i + 1, k, hM, hk, hnd, h => by
    have := mapK_hit r (n + 1) (M.put x (.lit (.int .i64 n))) i k (hM.put _ _) hk (List.nodup_cons.1 hnd).2 (by simpa using h)
    rw [mapK, show n + (i + 1) = n + 1 + i by omega]
    exact this
end
theorem mvS_pr (s : Stp) (ft : List Int) : (mvS s ft).pr.length = s.pr.length := by unfold mvS; simp
/-- What is asked of the keys of the steps that a list leads to. -/
structure KyOK (Y : Ky) (kl : Stp → Lit) (l : List Stp) : Prop where
  fn : ∀ s ∈ l, ∀ ft : List Int, (∀ k ∈ ft, 0 ≤ k ∧ k < 300000) → Fn Tryd.prog 20 [.g (enS (mvS s ft))] [.g ((Y.kv (mvS s ft)).map D.v)]
  lit : ∀ s ∈ l, ∀ ft : List Int, (∀ k ∈ ft, 0 ≤ k ∧ k < 300000) → keyOf Tryd.prog 65 (.agg (Y.kv (mvS s ft)).toArray) = some (kl (mvS s ft))
set_option maxRecDepth 100000 in
set_option maxHeartbeats 8000000 in
theorem shareF (Y : Ky) (kl : Stp → Lit) (l : List Stp) (hl : l.length ≤ 300000) (hsm : ∀ s ∈ l, SmS s) (hok : okS l) (hY : KyOK Y kl l) (hkd : Go.Maps.Keyed Tryd.prog 65) : Fn Tryd.prog 13 [.d (.l (l.map enS))] [.d (.l ((share kl l).1.map enS)), .d (enZ (share kl l).2), .d (.v (.int .i64 0))] := by
  have hchk := checkF l hl (fun s h => (hsm s h).2.2.2)
  rw [chk_ok hok] at hchk
  have hz : ∀ w, (zeroValue 3).run Tryd.prog w = .ok (.int .i64 0) w := fun w => by kernel_rfl
  have hT : (Tryd.prog).underlying 63 = some (.map 65 3) := by kernel_rfl
  have hE : (Tryd.prog).underlying 3 = some (.int .i64) := by kernel_rfl
  refine Fn.of Tryd.func13 rfl (by kernel_rfl) Tryd.ntmps13 Tryd.results13 rfl fun w0 S0 => ?_
  refine wk ?_
  ((try (first | intro K ms hms hK | intro K hK)); (first | apply Chain.go | apply Chain.goD); exact rfl; exact rfl; refine Loc.callD (hchk) rfl ?_; (repeat (first | exact trivial | refine ⟨.inl rfl, ?_⟩ | refine ⟨.inr rfl, ?_⟩)))
  refine wk ?_
  (first | intro K ms hms hK | intro K hK)
  refine Chain.mkMap 65 3 rfl rfl rfl rfl fun b => ?_
  refine wk ?_
  refine AC.rowVar 6 48 43 5 rfl rfl ?_
  refine AC.rowVar 7 52 3 1 rfl rfl ?_
  refine AC.loop (X := Nat) (fun i => ⟨[(6, .r 48 (share kl (l.take i)).1.length), (7, .r 52 i), (8, .d (.v (.map (some b)))), (21, .d (.l (l.map enS))), (22, .d (.v (.int .i64 (l.length : Int)))), (23, .d (.v (.int .i64 (i : Int))))],
    [(48, .row (share kl (l.take i)).1.length 43 5 ((share kl (l.take i)).1.map enS)), (52, .row i 3 1 ((share kl (l.take i)).2.map fun v => [.v (.int .i64 v)])), (20, mapO Tryd.prog 65 3 b (share kl (l.take i)).1.length (mapK ((share kl (l.take i)).1.map kl) 0 (.map [])))]⟩)
    (fun i => i ≤ l.length ∧ Shd kl (share kl (l.take i)) i) (fun i => l.length - i) 0 ⟨Nat.zero_le _, Shd.nil kl⟩ ⟨rfl, rfl, rfl, rfl, rfl, rfl, trivial⟩ ⟨rfl, rfl, rfl, trivial⟩ ?_
  intro i ⟨hi, hsh⟩
  refine wk ?_
  ((try (first | intro K ms hms hK | intro K hK)); (first | refine Chain.lss rfl rfl rfl rfl rfl (fun h1 => ?_) (fun h1 => ?_) | refine Chain.lssD rfl rfl rfl rfl rfl (fun h1 => ?_) (fun h1 => ?_)))
  · have hi' : i < l.length := by omega
    have hget : l[i]? = some l[i] := List.getElem?_eq_getElem hi'
    obtain ⟨hs1, hs2, hs3, hs4⟩ := hsm l[i] (List.getElem_mem hi')
    have hpr : ∀ k ∈ l[i].pr, 0 ≤ k ∧ k < i := fun k hk => okTo_pr hok hget hk
    have hsucc := share_succ kl hget
    have hft : ∀ k ∈ (share kl (l.take i)).2, 0 ≤ k ∧ k < 300000 := fun k hk => by
      have := hsh.rg k hk
      have := hsh.out
      omega
    have hky := hY.fn l[i] (List.getElem_mem hi') _ hft
    have hkl := hY.lit l[i] (List.getElem_mem hi') _ hft
    generalize l[i] = s at hget hs1 hs2 hs3 hs4 hpr hsucc hky hkl
    generalize share kl (l.take i) = a at hsh hsucc hky hkl ⊢
    obtain ⟨out, ft⟩ := a
    dsimp only at hsh hsucc hky hkl ⊢
    have hfl : ft.length = i := hsh.len
    have hol : out.length ≤ i := hsh.out
    refine wk ?_
    ((try (first | intro K ms hms hK | intro K hK)); (first | apply Chain.ef | apply Chain.efD); exact rfl; exact rfl; (refine Do.callKr (copiedF s ft (by omega) (by omega) (by omega) (fun k hk => by have := hpr k hk; omega)) rfl rfl rfl rfl ?_ ?_ <;> (first | exact trivial | repeat (first | exact trivial | refine ⟨.inl rfl, ?_⟩ | refine ⟨.inr rfl, ?_⟩))); exact rfl; exact rfl)
    refine wk ?_
    ((try (first | intro K ms hms hK | intro K hK)); (first | apply Chain.go | apply Chain.goD); exact rfl; exact rfl; refine Loc.callG (hky) rfl ?_; (repeat (first | exact trivial | refine ⟨.inl rfl, ?_⟩ | refine ⟨.inr rfl, ?_⟩)))
    refine wk ?_
    have hkey : WideAt.IsKeyLit (kl (mvS s ft)) := hkd.key hkl
    have hlen1 : (out.map enS).length = out.length := by simp
    cases hf : fiK kl out (kl (mvS s ft)) with
    | some j =>
      obtain ⟨hj, hjk⟩ := fiK_some kl hf
      have hst : shStep kl (out, ft) s = (out, ft ++ [(j : Int)]) := by unfold shStep; dsimp only; rw [hf]
      rw [hst] at hsucc
      obtain ⟨m1, m2⟩ := mapK_hit (out.map kl) 0 (.map []) j (kl (mvS s ft)) Go.Maps.isMap_empty hkey hsh.nd (by rw [List.getElem?_map, List.getElem?_eq_getElem hj, Option.map_some, hjk])
      rw [Nat.zero_add] at m2
      ((try (first | intro K ms hms hK | intro K hK)); (first | apply Chain.go | apply Chain.goD); exact rfl; exact rfl; exact Loc.lookM (id := 20) (xs := Y.kv (mvS s ft)) rfl rfl rfl rfl hT hE hz hkd hkl (m2 _) m1)
      refine wk ?_
      have hsh2 := hsh.found (i := j) hj
      refine ⟨i + 1, ⟨by omega, by rw [hsucc]; exact hsh2⟩, by omega, ⟨by rw [hsucc]; rfl, rfl, rfl, rfl, rfl, rfl, trivial⟩, ⟨by rw [hsucc]; rfl, by rw [hsucc, enZ_snoc]; rfl, by rw [hsucc]; rfl, trivial⟩⟩
    | none =>
      have hnone := fiK_none kl hf
      have hst : shStep kl (out, ft) s = (out ++ [mvS s ft], ft ++ [(out.length : Int)]) := by unfold shStep; dsimp only; rw [hf]
      rw [hst] at hsucc
      obtain ⟨m1, m2⟩ := mapK_miss (out.map kl) 0 (.map []) (kl (mvS s ft)) (fun h => by
        obtain ⟨y, hy, e⟩ := List.mem_map.1 h
        exact hnone y hy e)
      have hM : mapK ((out ++ [mvS s ft]).map kl) 0 (.map []) = (mapK (out.map kl) 0 (.map [])).put (kl (mvS s ft)) (.lit (.int .i64 (out.length : Int))) := by
        rw [List.map_append, List.map_cons, List.map_nil, mapK_snoc, List.length_map, Nat.zero_add]
      ((try (first | intro K ms hms hK | intro K hK)); (first | apply Chain.go | apply Chain.goD); exact rfl; exact rfl; exact Loc.lookM (id := 20) (xs := Y.kv (mvS s ft)) rfl rfl rfl rfl hT hE hz hkd hkl ((m2 _).trans rfl) (m1.trans rfl))
      refine wk ?_
      rw [hlen1]
      ((try (first | intro K ms hms hK | intro K hK)); (first | apply Chain.st | apply Chain.stD); exact rfl; exact rfl; exact Do.putM (id := 20) (xs := Y.kv (mvS s ft)) rfl rfl rfl rfl rfl hT hE hkd hkl (by omega) (WalkArith.wf_i64 (by omega)) rfl; exact rfl; exact rfl)
      refine wk ?_
      have hsh2 := hsh.new (x := mvS s ft) hnone
      refine ⟨i + 1, ⟨by omega, by rw [hsucc]; exact hsh2⟩, by omega, ⟨by rw [hsucc]; simp only [List.length_append, List.length_cons, List.length_nil]; rfl, rfl, rfl, rfl, rfl, rfl, trivial⟩, ⟨by rw [hsucc]; simp only [List.length_append, List.length_cons, List.length_nil, List.map_append]; rfl, by rw [hsucc, enZ_snoc]; rfl, by rw [hsucc, hM]; simp only [List.length_append, List.length_cons, List.length_nil]; rfl, trivial⟩⟩
  · obtain rfl : i = l.length := by omega
    rw [List.take_length]
    refine wk ?_
    exact ⟨.d rfl ⟨_, _, rfl⟩, .d rfl ⟨_, _, rfl⟩, .d rfl (.inl rfl), trivial⟩
end Go.Proofs.YtfijmpmojhlnmaaDoor
