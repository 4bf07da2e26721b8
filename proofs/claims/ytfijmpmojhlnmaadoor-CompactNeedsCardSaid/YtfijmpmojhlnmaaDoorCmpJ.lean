/-
  Packages compact and proof's steps by plain data.
-/
import Derived.Test.YtfijmpmojhlnmaaDoorCmpI
import Derived.Test.YtfijmpmojhlnmaaDoorOpen
import Derived.DeepKeys4
namespace Go.Proofs.YtfijmpmojhlnmaaDoor
open Go.RowKit
attribute [local irreducible] AC Do St
theorem keyd : Go.Maps.Keyed Tryd.prog 65 := Go.Maps.Keyed.of_law (deep_law_laid (m := 2) (by kernel_rfl) (by omega) (of_decide_eq_true (by kernel_rfl)) (by kernel_rfl) (by kernel_rfl))
theorem key_some (a b : Int) (x y z : ByteArray) (ha : (Lit.int .i64 a).wf = true) (hb : (Lit.int .i64 b).wf = true) (hx : x.size ≤ maxLen) (hy : y.size ≤ maxLen) (hz : z.size ≤ maxLen) : ∃ l, keyOf Tryd.prog 65 (.agg #[.int .i64 a, .int .i64 b, .string x, .string y, .string z]) = some l := by
  have hsz : (Tryd.prog).types.size + 1 = ((Tryd.prog).types.size - 1) + 2 := by
    have : (0 : Nat) < (Tryd.prog).types.size := of_decide_eq_true (by kernel_rfl)
    omega
  have hf : Value.formed Tryd.prog 65 (.agg #[.int .i64 a, .int .i64 b, .string x, .string y, .string z]) = true := by
    unfold Value.formed
    kernel_rfl
  have hl : ∃ ls, (Tryd.prog).keyLits ((Tryd.prog).types.size + 1) 65 [.int .i64 a, .int .i64 b, .string x, .string y, .string z] = some ls := by
    rw [hsz]
    generalize (Tryd.prog).types.size - 1 = n
    have hi : ∀ c : Int, (Lit.int .i64 c).wf = true → (Tryd.prog).keyLits (n + 1) 3 [.int .i64 c] = some [.int .i64 c] := fun c hc => by
      unfold Program.keyLits
      rw [Tryd.underlying3]
      simp [hc]
    have hs : ∀ c : ByteArray, c.size ≤ maxLen → (Tryd.prog).keyLits (n + 1) 9 [.string c] = some [.string c.data.toList] := fun c hc => by
      unfold Program.keyLits
      rw [Tryd.underlying9]
      simp [hc]
    have hci : (Tryd.prog).cellsOf 3 = 1 := by kernel_rfl
    have hcs : (Tryd.prog).cellsOf 9 = 1 := by kernel_rfl
    have hck : (Tryd.prog).cellsOf 65 = 5 := by kernel_rfl
    unfold Program.keyLits
    rw [Tryd.underlying65]
    refine ⟨[.int .i64 a, .int .i64 b, .string x.data.toList, .string y.data.toList, .string z.data.toList], ?_⟩
    simp [hci, hcs, hck, hi a ha, hi b hb, hs x hx, hs y hy, hs z hz]
  obtain ⟨ls, hl⟩ := hl
  unfold keyOf
  rw [Tryd.underlying65]
  have hkt : (Tryd.prog).keyType 65 = true := by kernel_rfl
  have hc : (Value.agg #[.int .i64 a, .int .i64 b, .string x, .string y, .string z]).cells.toList = [.int .i64 a, .int .i64 b, .string x, .string y, .string z] := rfl
  simp only [hkt, hf, Bool.and_self, if_true, hc, hl, Option.map_some]
  exact ⟨_, rfl⟩
noncomputable def klit (Y : Ky) (s : Stp) : Lit := (keyOf Tryd.prog 65 (.agg (Y.kv s).toArray)).getD .nil
theorem klit_some (Y : Ky) (s : Stp) (h1 : (Lit.int .i64 s.rule).wf = true) (h2 : (Lit.int .i64 s.idx).wf = true) (h3 : (Y.c1 s).size ≤ maxLen) (h4 : (Y.c2 s).size ≤ maxLen) (h5 : (Y.c3 s).size ≤ maxLen) : keyOf Tryd.prog 65 (.agg (Y.kv s).toArray) = some (klit Y s) := by
  obtain ⟨l, hl⟩ := key_some s.rule s.idx (Y.c1 s) (Y.c2 s) (Y.c3 s) h1 h2 h3 h4 h5
  have hl : keyOf Tryd.prog 65 (.agg (Y.kv s).toArray) = some l := hl
  unfold klit
  rw [hl]
  rfl
def Ky0 : Ky := ⟨fun s => packS s.cl, fun s => packS s.pr, fun _ => ⟨#[]⟩⟩
theorem packS_size (l : List Int) : (packS l).size ≤ l.length * 10 := by
  have := packL_len (us := l.map zigN) fun u h => by obtain ⟨x, _, rfl⟩ := List.mem_map.1 h; exact zigN_lt x
  rw [List.length_map] at this
  show (packL (l.map zigN)).toArray.size ≤ _
  simpa using this
set_option maxRecDepth 100000 in
set_option maxHeartbeats 2000000 in
theorem keyNil (s : Stp) (h0 : s.tm = []) (h1 : s.cl.length ≤ 1000000) (h2 : s.pr.length ≤ 1000000) : Fn Tryd.prog 20 [.g (enS s)] [.g ((Ky0.kv s).map D.v)] := by
  obtain ⟨rule, cl, idx, pr, tm⟩ := s
  dsimp only at h0 h1 h2
  subst h0
  refine Fn.of Tryd.func20 rfl (by kernel_rfl) Tryd.ntmps20 Tryd.results20 rfl fun w0 S0 => ?_
  refine wk ?_
  refine AC.loop (X := Nat) (fun _ => ⟨[(1, .p 1 0), (2, .p 2 0), (3, .d .n), (7, .d (.l [])), (8, .d (.v (.int .i64 0))), (9, .d (.v (.int .i64 0)))], [(1, .box 43 ((enS ⟨rule, cl, idx, pr, []⟩).map .d)), (2, .box 65 [.d (.v (.int .i64 0)), .d (.v (.int .i64 0)), .d (.v (.string ⟨#[]⟩)), .d (.v (.string ⟨#[]⟩)), .d (.v (.string ⟨#[]⟩))])]⟩) (fun _ => True) (fun i => i) 0 trivial ⟨rfl, rfl, rfl, rfl, rfl, rfl, trivial⟩ ⟨rfl, rfl, trivial⟩ ?_
  intro i _
  refine wk ?_
  ((try (first | intro K ms hms hK | intro K hK)); (first | apply Chain.go | apply Chain.goD); exact rfl; exact rfl; refine Loc.callD (packedF cl (by omega)) rfl ?_; (repeat (first | exact trivial | refine ⟨.inl rfl, ?_⟩ | refine ⟨.inr rfl, ?_⟩)))
  refine wk ?_
  ((try (first | intro K ms hms hK | intro K hK)); (first | apply Chain.go | apply Chain.goD); exact rfl; exact rfl; refine Loc.callD (packedF pr (by omega)) rfl ?_; (repeat (first | exact trivial | refine ⟨.inl rfl, ?_⟩ | refine ⟨.inr rfl, ?_⟩)))
  refine wk ?_
  ((try (first | intro K ms hms hK | intro K hK)); (first | apply Chain.go | apply Chain.goD); exact rfl; exact rfl; refine Loc.callD (joinNil ⟨#[32]⟩) rfl ?_; (repeat (first | exact trivial | refine ⟨.inl rfl, ?_⟩ | refine ⟨.inr rfl, ?_⟩)))
  refine wk ?_
  exact ⟨.cn rfl rfl inferInstance rfl ⟨.inl rfl, .inl rfl, .inl rfl, .inl rfl, .inl rfl, trivial⟩, trivial⟩
theorem share_inv {kl : Stp → Lit} {l : List Stp} (I : List Stp × List Int → Nat → Prop) (h0 : I ([], []) 0) (h1 : ∀ i a s, l[i]? = some s → I a i → I (shStep kl a s) (i + 1)) : ∀ n, n ≤ l.length → I (share kl (l.take n)) n
  | 0, _ => by simpa [share] using h0
  | n + 1, h => by
    have hg : l[n]? = some l[n] := List.getElem?_eq_getElem (by omega)
    rw [share_succ kl hg]
    exact h1 n _ _ hg (share_inv I h0 h1 n (by omega))
theorem shStep_cases (kl : Stp → Lit) (a : List Stp × List Int) (s : Stp) : (∃ j, ∃ h : j < a.1.length, kl a.1[j] = kl (mvS s a.2) ∧ shStep kl a s = (a.1, a.2 ++ [(j : Int)])) ∨ ((∀ y ∈ a.1, kl y ≠ kl (mvS s a.2)) ∧ shStep kl a s = (a.1 ++ [mvS s a.2], a.2 ++ [(a.1.length : Int)])) := by
  unfold shStep
  cases h : fiK kl a.1 (kl (mvS s a.2)) with
  | some j =>
    obtain ⟨h1, h2⟩ := fiK_some kl h
    exact .inl ⟨j, h1, h2, rfl⟩
  | none => exact .inr ⟨fiK_none kl h, rfl⟩
theorem share_shd {kl : Stp → Lit} (l : List Stp) : Shd kl (share kl l) l.length := by
  have := share_inv (kl := kl) (l := l) (fun a n => Shd kl a n) (Shd.nil kl) (fun i a s _ h => by
    rcases shStep_cases kl a s with ⟨j, hj, _, e⟩ | ⟨hn, e⟩
    · rw [e]; exact h.found hj
    · rw [e]; exact h.new hn) l.length (Nat.le_refl _)
  rwa [List.take_length] at this
theorem okS_snoc {out : List Stp} {x : Stp} (h : okS out) (hx : badP out.length x.pr = false) : okS (out ++ [x]) := fun i hi _ => by
  by_cases hi2 : i < out.length
  · rw [List.getElem_append_left hi2]; exact h i hi2 hi2
  · have e : i = out.length := by simp at hi; omega
    subst e
    rw [List.getElem_append_right (Nat.le_refl _)]
    simpa using hx
theorem badP_mvS {s : Stp} {ft : List Int} {n m : Nat} (hp : ∀ k ∈ s.pr, 0 ≤ k ∧ k < (n : Int)) (hl : ft.length = n) (hf : ∀ k ∈ ft, 0 ≤ k ∧ k < (m : Int)) : badP m (mvS s ft).pr = false := by
  refine List.any_eq_false.2 fun k hk => ?_
  obtain ⟨j, hj, rfl⟩ := List.mem_map.1 hk
  have := hp j hj
  have hlt : j.toNat < ft.length := by omega
  rw [List.getD_eq_getElem?_getD, List.getElem?_eq_getElem hlt]
  have := hf _ (List.getElem_mem hlt)
  simp only [Option.getD_some, Bool.or_eq_true, decide_eq_true_eq, not_or, Int.not_lt, Int.not_le]
  omega
theorem share_okS {kl : Stp → Lit} {l : List Stp} (hok : okS l) : okS (share kl l).1 := by
  have := share_inv (kl := kl) (l := l) (fun a n => Shd kl a n ∧ okS a.1) ⟨Shd.nil kl, fun i hi _ => absurd hi (by simp)⟩ (fun i a s hs ⟨h, h2⟩ => by
    rcases shStep_cases kl a s with ⟨j, hj, _, e⟩ | ⟨hn, e⟩
    · rw [e]; exact ⟨h.found hj, h2⟩
    · rw [e]
      exact ⟨h.new hn, okS_snoc h2 (badP_mvS (fun k hk => okTo_pr hok hs hk) h.len h.rg)⟩) l.length (Nat.le_refl _)
  rw [List.take_length] at this
  exact this.2
theorem share_mem {kl : Stp → Lit} {l : List Stp} : ∀ y ∈ (share kl l).1, ∃ s ∈ l, ∃ ft : List Int, (∀ k ∈ ft, 0 ≤ k ∧ k < (l.length : Int)) ∧ y = mvS s ft := by
  have := share_inv (kl := kl) (l := l) (fun a n => Shd kl a n ∧ ∀ y ∈ a.1, ∃ s ∈ l, ∃ ft : List Int, (∀ k ∈ ft, 0 ≤ k ∧ k < (n : Int)) ∧ y = mvS s ft) ⟨Shd.nil kl, by simp⟩ (fun i a s hs ⟨h, h2⟩ => by
    have hup : ∀ y ∈ a.1, ∃ s ∈ l, ∃ ft : List Int, (∀ k ∈ ft, 0 ≤ k ∧ k < ((i + 1 : Nat) : Int)) ∧ y = mvS s ft := fun y hy => by
      obtain ⟨s, q1, ft, q2, q3⟩ := h2 y hy
      exact ⟨s, q1, ft, fun k hk => by have := q2 k hk; omega, q3⟩
    rcases shStep_cases kl a s with ⟨j, hj, _, e⟩ | ⟨hn, e⟩
    · rw [e]; exact ⟨h.found hj, hup⟩
    · rw [e]
      refine ⟨h.new hn, fun y hy => ?_⟩
      rcases List.mem_append.1 hy with hy | hy
      · exact hup y hy
      · exact ⟨s, List.mem_of_getElem? hs, a.2, fun k hk => by have := h.rg k hk; have := h.out; omega, List.mem_singleton.1 hy⟩) l.length (Nat.le_refl _)
  rw [List.take_length] at this
  exact this.2
theorem SmS.mv {s : Stp} (h : SmS s) (ft : List Int) : SmS (mvS s ft) := ⟨h.1, h.2.1, h.2.2.1, by rw [mvS_pr]; exact h.2.2.2⟩
/-- What is left: the steps needed, with their new places. -/
def cmStep (sh : List Stp) (a : List Stp × List Int) (k : Int) : List Stp × List Int := (a.1 ++ [mvS (sh.getD k.toNat ⟨0, [], 0, [], []⟩) (a.2.set k.toNat (a.1.length : Int))], a.2.set k.toNat (a.1.length : Int))
def cmL (sh : List Stp) (nd : List Int) : List Stp × List Int := nd.foldl (cmStep sh) ([], List.replicate sh.length 0)
theorem cm_succ (sh : List Stp) {nd : List Int} {i : Nat} {k : Int} (h : nd[i]? = some k) : cmL sh (nd.take (i + 1)) = cmStep sh (cmL sh (nd.take i)) k := by
  obtain ⟨h1, h2⟩ := List.getElem?_eq_some_iff.1 h
  unfold cmL
  rw [List.take_succ_eq_append_getElem h1, List.foldl_append, h2]
  rfl
theorem cm_len (sh : List Stp) (nd : List Int) : ∀ i, i ≤ nd.length → (cmL sh (nd.take i)).1.length = i ∧ (cmL sh (nd.take i)).2.length = sh.length
  | 0, _ => by simp [cmL]
  | i + 1, h => by
    have hg : nd[i]? = some nd[i] := List.getElem?_eq_getElem (by omega)
    obtain ⟨h1, h2⟩ := cm_len sh nd i (by omega)
    rw [cm_succ sh hg]
    exact ⟨by simp [cmStep, h1], by simp [cmStep, h2]⟩
/-- The compacted list. -/
noncomputable def compL (kl : Stp → Lit) (l : List Stp) : List Stp := (cmL (share kl l).1 (needI (share kl l).1 ((share kl l).2.getD (l.length - 1) 0).toNat)).1
theorem trues_mem {nd : List Bool} {n : Nat} {k : Int} (h : k ∈ trues nd n) : 0 ≤ k ∧ k < (n : Int) := by
  unfold trues at h
  obtain ⟨i, hi, rfl⟩ := List.mem_map.1 h
  have := List.mem_range.1 (List.mem_filter.1 hi).1
  show (0 : Int) ≤ (i : Int) ∧ (i : Int) < n
  omega
end Go.Proofs.YtfijmpmojhlnmaaDoor
