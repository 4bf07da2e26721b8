/-
  The document's answers for layer 24 by plain data.
  The document's answers for layer 24 by plain data: each step once.
  The document's answers for layer 24 by plain data: what is left; two lists.
-/
import Derived.Test.YtfijmpmojhlnmaaGreatDoorKeyG
import Derived.Test.YtfijmpmojhlnmaaGreatDoorCmpL
namespace Go.Proofs.YtfijmpmojhlnmaaGreatDoor
open Go.RowKit
attribute [local irreducible] AC Do St
theorem sgnR0 {q : Rat} : sgnR q = 0 ↔ q = 0 := by
  unfold sgnR
  constructor
  · intro h
    split at h
    · omega
    · split at h
      · rename_i h2; exact Rat.num_eq_zero.1 h2
      · omega
  · intro h
    subst h
    rfl
theorem sgnR_eq {p q : Rat} : sgnR (p - q) = 0 ↔ p = q := by
  have h : sgnR (p - q) = 0 ↔ p - q = 0 := sgnR0
  rw [h]
  constructor
  · intro h
    have : p - q + q = 0 + q := by rw [h]
    rwa [Rat.sub_add_cancel, Rat.zero_add] at this
  · rintro rfl; exact Rat.sub_self
set_option maxRecDepth 100000 in
set_option maxHeartbeats 2000000 in
theorem ratsF (a b : List Rat) (ha : a.length ≤ 1000000000) (h1 : ∀ q ∈ a, Bd 256 q) (h2 : ∀ q ∈ b, Bd 256 q) : Fn Tryz.prog 47 [.d (.l (a.map enQ)), .d (.l (b.map enQ))] [.d (.v (.bool (decide (a = b))))] := by
  refine Fn.of Tryz.func47 rfl (by kernel_rfl) Tryz.ntmps47 Tryz.results47 rfl fun w0 S0 => ?_
  refine wk ?_
  ((try (first | intro K ms hms hK | intro K hK)); (first | refine Chain.neq rfl rfl rfl rfl rfl (fun h3 => ?_) (fun h3 => ?_) | refine Chain.neqD rfl rfl rfl rfl rfl (fun h3 => ?_) (fun h3 => ?_)))
  · have : ¬ a = b := fun h => h3 (by rw [h])
    refine wk ?_
    rw [decide_eq_false this]
    exact ⟨.d rfl (.inl rfl), trivial⟩
  · have hl : a.length = b.length := by omega
    refine wk ?_
    refine AC.loop (X := Nat) (fun i => ⟨[(0, .d (.l (a.map enQ))), (1, .d (.l (b.map enQ))), (12, .d (.v (.int .i64 (a.length : Int)))), (13, .d (.v (.int .i64 (i : Int))))], []⟩) (fun i => i ≤ a.length ∧ a.take i = b.take i) (fun i => a.length - i) 0 ⟨Nat.zero_le _, rfl⟩ ⟨rfl, rfl, rfl, rfl, trivial⟩ trivial ?_
    intro i ⟨hi, heq⟩
    refine wk ?_
    ((try (first | intro K ms hms hK | intro K hK)); (first | refine Chain.lss rfl rfl rfl rfl rfl (fun h4 => ?_) (fun h4 => ?_) | refine Chain.lssD rfl rfl rfl rfl rfl (fun h4 => ?_) (fun h4 => ?_)))
    · have hi' : i < a.length := by omega
      have hi2 : i < b.length := by omega
      have hga : a[i]? = some a[i] := List.getElem?_eq_getElem hi'
      have hgb : b[i]? = some b[i] := List.getElem?_eq_getElem hi2
      have hba := h1 _ (List.getElem_mem hi')
      have hbb := h2 _ (List.getElem_mem hi2)
      have hs : a[i] = b[i] → a.take (i + 1) = b.take (i + 1) := fun h => by rw [List.take_succ_eq_append_getElem hi', List.take_succ_eq_append_getElem hi2, heq, h]
      have hn : ¬ a[i] = b[i] → ¬ a = b := fun h h2 => h (by subst h2; rfl)
      generalize a[i] = x at hga hs hn hba
      generalize b[i] = y at hgb hs hn hbb
      have hsg : sgnR (x - y) = 0 ↔ x = y := sgnR_eq
      have hcm := qCmp hba hbb (by omega)
      generalize sgnR (x - y) = sg at hsg hcm
      refine wk ?_
      ((try (first | intro K ms hms hK | intro K hK)); (first | apply Chain.go | apply Chain.goD); exact rfl; exact rfl; refine Loc.callD (hcm) rfl ?_; (repeat (first | exact trivial | refine ⟨.inl rfl, ?_⟩ | refine ⟨.inr rfl, ?_⟩)))
      ((try (first | intro K ms hms hK | intro K hK)); (first | refine Chain.neq rfl rfl rfl rfl rfl (fun h5 => ?_) (fun h5 => ?_) | refine Chain.neqD rfl rfl rfl rfl rfl (fun h5 => ?_) (fun h5 => ?_)))
      · refine wk ?_
        rw [decide_eq_false (hn fun h => h5 (hsg.2 h))]
        exact ⟨.d rfl (.inl rfl), trivial⟩
      · refine wk ?_
        exact ⟨i + 1, ⟨by omega, hs (hsg.1 (Classical.byContradiction h5))⟩, by omega, ⟨rfl, rfl, rfl, rfl, trivial⟩, trivial⟩
    · rw [List.take_of_length_le (by omega), List.take_of_length_le (by omega)] at heq
      refine wk ?_
      rw [decide_eq_true heq]
      exact ⟨.d rfl (.inl rfl), trivial⟩
def eqS (a b : Stp) : Bool := decide (a.rule = b.rule ∧ a.cl = b.cl ∧ a.idx = b.idx ∧ a.pr = b.pr ∧ a.tm = b.tm)
theorem eqS_iff {a b : Stp} : eqS a b = true ↔ a = b := by
  obtain ⟨r, cl, ix, pr, tm⟩ := a
  obtain ⟨r', cl', ix', pr', tm'⟩ := b
  unfold eqS
  rw [decide_eq_true_iff, Stp.mk.injEq]
theorem eqS_no {a b : Stp} (h : ¬ a = b) : eqS a b = false := by
  cases e : eqS a b with
  | true => exact absurd (eqS_iff.1 e) h
  | false => rfl
set_option maxRecDepth 100000 in
set_option maxHeartbeats 4000000 in
theorem alikeF (a b : Stp) (ha : SmS a) (hb : SmS b) : Fn Tryz.prog 18 [.g (enSQ a), .g (enSQ b)] [.d (.v (.bool (eqS a b)))] := by
  obtain ⟨r, cl, ix, pr, tm⟩ := a
  obtain ⟨r', cl', ix', pr', tm'⟩ := b
  obtain ⟨ha1, ha2, ha3, ha4⟩ := ha
  obtain ⟨hb1, _⟩ := hb
  dsimp only at ha1 ha2 ha3 ha4 hb1
  have q1 := sameZ cl cl' (by omega)
  have q2 := sameZ pr pr' (by omega)
  have q3 := ratsF tm tm' (by omega) ha1 hb1
  by_cases h1 : r = r'
  · by_cases h2 : ix = ix'
    · by_cases h3 : cl = cl'
      · rw [decide_eq_true h3] at q1
        by_cases h4 : pr = pr'
        · rw [decide_eq_true h4] at q2
          have e : eqS ⟨r, cl, ix, pr, tm⟩ ⟨r', cl', ix', pr', tm'⟩ = decide (tm = tm') := by
            refine decide_eq_decide.2 ?_
            simp [h1, h2, h3, h4]
          rw [e]
          refine Fn.of Tryz.func18 rfl (by kernel_rfl) Tryz.ntmps18 Tryz.results18 rfl fun w0 S0 => ?_
          refine wk ?_
          ((try (first | intro K ms hms hK | intro K hK)); (first | apply Chain.go | apply Chain.goD); exact rfl; exact rfl; refine Loc.callD (q1) rfl ?_; (repeat (first | exact trivial | refine ⟨.inl rfl, ?_⟩ | refine ⟨.inr rfl, ?_⟩)))
          refine wk ?_
          ((try (first | intro K ms hms hK | intro K hK)); (first | apply Chain.go | apply Chain.goD); exact rfl; exact rfl; refine Loc.callD (q2) rfl ?_; (repeat (first | exact trivial | refine ⟨.inl rfl, ?_⟩ | refine ⟨.inr rfl, ?_⟩)))
          refine wk ?_
          ((try (first | intro K ms hms hK | intro K hK)); (first | apply Chain.go | apply Chain.goD); exact rfl; exact rfl; refine Loc.callD (q3) rfl ?_; (repeat (first | exact trivial | refine ⟨.inl rfl, ?_⟩ | refine ⟨.inr rfl, ?_⟩)))
          refine wk ?_
          exact ⟨.d rfl (.inl rfl), trivial⟩
        · rw [decide_eq_false h4] at q2
          have e : eqS ⟨r, cl, ix, pr, tm⟩ ⟨r', cl', ix', pr', tm'⟩ = false := eqS_no fun h => h4 (Stp.mk.inj h).2.2.2.1
          rw [e]
          refine Fn.of Tryz.func18 rfl (by kernel_rfl) Tryz.ntmps18 Tryz.results18 rfl fun w0 S0 => ?_
          refine wk ?_
          ((try (first | intro K ms hms hK | intro K hK)); (first | apply Chain.go | apply Chain.goD); exact rfl; exact rfl; refine Loc.callD (q1) rfl ?_; (repeat (first | exact trivial | refine ⟨.inl rfl, ?_⟩ | refine ⟨.inr rfl, ?_⟩)))
          refine wk ?_
          ((try (first | intro K ms hms hK | intro K hK)); (first | apply Chain.go | apply Chain.goD); exact rfl; exact rfl; refine Loc.callD (q2) rfl ?_; (repeat (first | exact trivial | refine ⟨.inl rfl, ?_⟩ | refine ⟨.inr rfl, ?_⟩)))
          refine wk ?_
          exact ⟨.d rfl (.inl rfl), trivial⟩
      · rw [decide_eq_false h3] at q1
        have e : eqS ⟨r, cl, ix, pr, tm⟩ ⟨r', cl', ix', pr', tm'⟩ = false := eqS_no fun h => h3 (Stp.mk.inj h).2.1
        rw [e]
        refine Fn.of Tryz.func18 rfl (by kernel_rfl) Tryz.ntmps18 Tryz.results18 rfl fun w0 S0 => ?_
        refine wk ?_
        ((try (first | intro K ms hms hK | intro K hK)); (first | apply Chain.go | apply Chain.goD); exact rfl; exact rfl; refine Loc.callD (q1) rfl ?_; (repeat (first | exact trivial | refine ⟨.inl rfl, ?_⟩ | refine ⟨.inr rfl, ?_⟩)))
        refine wk ?_
        exact ⟨.d rfl (.inl rfl), trivial⟩
    · have e : eqS ⟨r, cl, ix, pr, tm⟩ ⟨r', cl', ix', pr', tm'⟩ = false := eqS_no fun h => h2 (Stp.mk.inj h).2.2.1
      rw [e]
      refine Fn.of Tryz.func18 rfl (by kernel_rfl) Tryz.ntmps18 Tryz.results18 rfl fun w0 S0 => ?_
      refine wk ?_
      exact ⟨.d rfl (.inl rfl), trivial⟩
  · have e : eqS ⟨r, cl, ix, pr, tm⟩ ⟨r', cl', ix', pr', tm'⟩ = false := eqS_no fun h => h1 (Stp.mk.inj h).1
    rw [e]
    refine Fn.of Tryz.func18 rfl (by kernel_rfl) Tryz.ntmps18 Tryz.results18 rfl fun w0 S0 => ?_
    refine wk ?_
    exact ⟨.d rfl (.inl rfl), trivial⟩
end Go.Proofs.YtfijmpmojhlnmaaGreatDoor
namespace Go.Proofs.YtfijmpmojhlnmaaGreatDoor
open Go.RowKit
attribute [local irreducible] AC Do St
set_option maxRecDepth 100000 in
set_option maxHeartbeats 4000000 in
theorem turnedF (s : Stp) (ft : List Int) (h2 : s.pr.length ≤ 1000000) (hp : ∀ k ∈ s.pr, 0 ≤ k ∧ k < ft.length) :
    FnX Tryz.prog 45 [.g (enSQ s)] (.row 0 3 1 (ft.map fun v => [.v (.int .i64 v)])) (.row 0 3 1 (ft.map fun v => [.v (.int .i64 v)])) [] [.g (enSQ (mvS s ft))] := by
  have htl : (ft.map fun v => [D.v (.int .i64 v)]).length = ft.length := by simp
  refine FnX.of Tryz.func45 rfl (by kernel_rfl) Tryz.ntmps45 Tryz.results45 rfl .row fun w0 S0 v => ?_
  refine wk ?_
  refine AC.loop (X := Nat) (fun i => ⟨[(1, .r 34 0), (2, .p 2 0), (4, .p 4 0), (5, .r 8 i), (10, .d (enZ s.pr)), (11, .d (.v (.int .i64 (s.pr.length : Int)))), (12, .d (.v (.int .i64 (i : Int))))], [(2, .box 45 ((enSQ s).map .d)), (4, .box 45 [.d (.v (.int .i64 0)), .d .n, .d (.v (.int .i64 0)), .d .n, .d .n]), (8, .row i 3 1 (((s.pr.take i).map fun k => ft.getD k.toNat 0).map fun v => [.v (.int .i64 v)])), (34, .row 0 3 1 (ft.map fun v => [.v (.int .i64 v)]))]⟩) (fun i => i ≤ s.pr.length) (fun i => s.pr.length - i) 0 (Nat.zero_le _) ⟨rfl, rfl, rfl, rfl, rfl, rfl, rfl, trivial⟩ ⟨rfl, rfl, rfl, rfl, trivial⟩ ?_
  intro i hi
  refine wk ?_
  ((try (first | intro K ms hms hK | intro K hK)); (first | refine Chain.lss rfl rfl rfl rfl rfl (fun h4 => ?_) (fun h4 => ?_) | refine Chain.lssD rfl rfl rfl rfl rfl (fun h4 => ?_) (fun h4 => ?_)))
  · have hi' : i < s.pr.length := by omega
    have hget : s.pr[i]? = some s.pr[i] := List.getElem?_eq_getElem hi'
    obtain ⟨hk0, hk1⟩ := hp s.pr[i] (List.getElem_mem hi')
    have hts : ((s.pr.take (i + 1)).map fun k => ft.getD k.toNat 0).map (fun v => [D.v (.int .i64 v)]) = ((s.pr.take i).map fun k => ft.getD k.toNat 0).map (fun v => [D.v (.int .i64 v)]) ++ [[D.v (.int .i64 (ft.getD s.pr[i].toNat 0))]] := by
      rw [List.take_succ_eq_append_getElem hi', List.map_append, List.map_append]; rfl
    generalize s.pr[i] = k at hget hk0 hk1 hts
    have hfg : (ft.map fun v => [D.v (.int .i64 v)])[k.toNat]? = some [.v (.int .i64 (ft.getD k.toNat 0))] := by
      rw [List.getElem?_map, List.getD_eq_getElem?_getD, List.getElem?_eq_getElem (by omega)]; rfl
    refine wk ?_
    ((try (first | intro K ms hms hK | intro K hK)); (first | apply Chain.go | apply Chain.goD); exact rfl; exact rfl; exact Loc.idxR (i := k.toNat) rfl rfl rfl rfl (by omega) (by omega) rfl)
    refine wk ?_
    exact ⟨i + 1, by omega, by omega, ⟨rfl, rfl, rfl, rfl, rfl, rfl, rfl, trivial⟩, ⟨rfl, rfl, by rw [hts]; rfl, rfl, trivial⟩⟩
  · have hfin : (s.pr.take i).map (fun k => ft.getD k.toNat 0) = (mvS s ft).pr := by
      rw [List.take_of_length_le (by omega)]
      rfl
    rw [hfin]
    refine Chain.frzVar 5 rfl rfl ?_
    refine wk ?_
    exact ⟨⟨.cn rfl rfl inferInstance rfl ⟨.inl rfl, .inl rfl, .inl rfl, .inl rfl, .inl rfl, trivial⟩, trivial⟩, rfl⟩
noncomputable def atI (kl : Stp → Lit) (out : List Stp) (k : Lit) : Int := match fiK kl out k with
  | some i => (i : Int)
  | none => -1
theorem fiK_snoc (kl : Stp → Lit) (out : List Stp) (y : Stp) (k : Lit) : (∀ i, fiK kl out k = some i → fiK kl (out ++ [y]) k = some i) ∧ (fiK kl out k = none → (kl y = k → fiK kl (out ++ [y]) k = some out.length) ∧ (kl y ≠ k → fiK kl (out ++ [y]) k = none)) := by
  unfold fiK
  rw [List.findIdx?_append]
  refine ⟨fun i h => by rw [h]; rfl, fun h => ⟨fun hy => ?_, fun hy => ?_⟩⟩
  · rw [h]
    simp [List.findIdx?_singleton, hy]
  · rw [h]
    simp [List.findIdx?_singleton, hy]
theorem atI_yes {kl : Stp → Lit} {out : List Stp} {y : Stp} {k : Lit} (h : atI kl out k < 0) (hy : kl y = k) : atI kl (out ++ [y]) k = (out.length : Int) := by
  have hs := fiK_snoc kl out y k
  unfold atI at h ⊢
  cases hf : fiK kl out k with
  | some i => rw [hf] at h; simp only at h; omega
  | none => rw [(hs.2 hf).1 hy]
theorem atI_no {kl : Stp → Lit} {out : List Stp} {y : Stp} {k : Lit} (h : ¬ (atI kl out k < 0 ∧ kl y = k)) : atI kl (out ++ [y]) k = atI kl out k := by
  have hs := fiK_snoc kl out y k
  unfold atI at h ⊢
  cases hf : fiK kl out k with
  | some i => rw [hs.1 i hf]
  | none =>
    rw [hf] at h
    have : ¬ kl y = k := fun e => h ⟨by decide, e⟩
    rw [(hs.2 hf).2 this]
theorem atI_range (kl : Stp → Lit) (out : List Stp) (k : Lit) : -1 ≤ atI kl out k ∧ atI kl out k < (out.length : Int) := by
  unfold atI
  cases hf : fiK kl out k with
  | some i => have := (fiK_some kl hf).1; exact ⟨by simp only; omega, by simp only; omega⟩
  | none => exact ⟨by simp only; omega, by simp only; omega⟩
theorem shStep_at (kl : Stp → Lit) (out : List Stp) (ft : List Int) (s : Stp) : (0 ≤ atI kl out (kl (mvS s ft)) ∧ shStep kl (out, ft) s = (out, ft ++ [atI kl out (kl (mvS s ft))])) ∨ (atI kl out (kl (mvS s ft)) = -1 ∧ shStep kl (out, ft) s = (out ++ [mvS s ft], ft ++ [(out.length : Int)])) := by
  unfold atI shStep
  dsimp only
  cases hf : fiK kl out (kl (mvS s ft)) with
  | some i => exact .inl ⟨by simp only; omega, rfl⟩
  | none => exact .inr ⟨rfl, rfl⟩
theorem enSQ_len (s : Stp) : (enSQ s).length = 5 := rfl
set_option maxRecDepth 100000 in
set_option maxHeartbeats 8000000 in
theorem refShare (kl : Stp → Lit) (hinj : ∀ x y, WfS x → WfS y → kl x = kl y → x = y) (l : List Stp) (hl : l.length ≤ 300000) (hw : ∀ s ∈ l, WfS s) (hok : okS l) : Fn Tryz.prog 13 [.d (.l (l.map enSQ))] [.d (.l ((share kl l).1.map enSQ)), .d (enZ (share kl l).2)] := by
  refine Fn.of Tryz.func13 rfl (by kernel_rfl) Tryz.ntmps13 Tryz.results13 rfl fun w0 S0 => ?_
  refine wk ?_
  refine AC.loop (X := Nat) (fun i => ⟨[(4, .r 11 (share kl (l.take i)).1.length), (5, .r 12 i), (13, .d (.l (l.map enSQ))), (14, .d (.v (.int .i64 (l.length : Int)))), (15, .d (.v (.int .i64 (i : Int))))],
    [(11, .row (share kl (l.take i)).1.length 45 5 ((share kl (l.take i)).1.map enSQ)), (12, .row i 3 1 ((share kl (l.take i)).2.map fun v => [.v (.int .i64 v)]))]⟩)
    (fun i => i ≤ l.length ∧ Shd kl (share kl (l.take i)) i ∧ ∀ y ∈ (share kl (l.take i)).1, WfS y) (fun i => l.length - i) 0 ⟨Nat.zero_le _, Shd.nil kl, by simp [share]⟩ ⟨rfl, rfl, rfl, rfl, rfl, trivial⟩ ⟨rfl, rfl, trivial⟩ ?_
  intro i ⟨hi, hsh, hwf⟩
  refine wk ?_
  ((try (first | intro K ms hms hK | intro K hK)); (first | refine Chain.lss rfl rfl rfl rfl rfl (fun h1 => ?_) (fun h1 => ?_) | refine Chain.lssD rfl rfl rfl rfl rfl (fun h1 => ?_) (fun h1 => ?_)))
  · have hi' : i < l.length := by omega
    have hget : l[i]? = some l[i] := List.getElem?_eq_getElem hi'
    have hws := hw l[i] (List.getElem_mem hi')
    have hpr : ∀ k ∈ l[i].pr, 0 ≤ k ∧ k < i := fun k hk => okTo_pr hok hget hk
    have hsucc := share_succ kl hget
    have hft : ∀ k ∈ (share kl (l.take i)).2, 0 ≤ k ∧ k < 300000 := fun k hk => by
      have := hsh.rg k hk
      have := hsh.out
      omega
    generalize l[i] = s at hget hws hpr hsucc
    generalize share kl (l.take i) = a at hsh hsucc hft hwf ⊢
    obtain ⟨out, ft⟩ := a
    dsimp only at hsh hsucc hft hwf ⊢
    have hfl : ft.length = i := hsh.len
    have hol : out.length ≤ i := hsh.out
    have hwx := hws.mv hft
    have hs4 := hws.sm.2.2.2
    have hat := shStep_at kl out ft s
    have hlen1 : (out.map enSQ).length = out.length := by simp
    refine wk ?_
    ((try (first | intro K ms hms hK | intro K hK)); (first | apply Chain.ef | apply Chain.efD); exact rfl; exact rfl; (refine Do.callKr (turnedF s ft (by omega) (fun k hk => by have := hpr k hk; omega)) rfl rfl rfl rfl ?_ ?_ <;> (first | exact trivial | repeat (first | exact trivial | refine ⟨.inl rfl, ?_⟩ | refine ⟨.inr rfl, ?_⟩))); exact rfl; exact rfl)
    refine wk ?_
    refine AC.loop (X := Nat) (fun j => ⟨[(4, .r 11 out.length), (5, .r 12 i), (13, .d (.l (l.map enSQ))), (14, .d (.v (.int .i64 (l.length : Int)))), (15, .d (.v (.int .i64 (i : Int)))), (8, .p 8 0), (9, .d (.v (.int .i64 (atI kl (out.take j) (kl (mvS s ft)))))), (23, .d (.v (.int .i64 (out.length : Int)))), (24, .d (.v (.int .i64 (j : Int))))], [(8, .box 45 ((enSQ (mvS s ft)).map .d)), (11, .row out.length 45 5 (out.map enSQ)), (12, .row i 3 1 (ft.map fun v => [.v (.int .i64 v)]))]⟩) (fun j => j ≤ out.length) (fun j => out.length - j) 0 (Nat.zero_le _) ⟨rfl, rfl, rfl, rfl, rfl, rfl, rfl, by dsimp only; rw [← hlen1]; rfl, rfl, trivial⟩ ⟨rfl, rfl, rfl, trivial⟩ ?_
    intro j hj
    refine wk ?_
    ((try (first | intro K ms hms hK | intro K hK)); (first | refine Chain.lss rfl rfl rfl rfl rfl (fun h2 => ?_) (fun h2 => ?_) | refine Chain.lssD rfl rfl rfl rfl rfl (fun h2 => ?_) (fun h2 => ?_)))
    · have hj' : j < out.length := by omega
      have hgj : (out.map enSQ)[j]? = some (enSQ out[j]) := by rw [List.getElem?_map, List.getElem?_eq_getElem hj']; rfl
      have hyw := hwf _ (List.getElem_mem hj')
      have htk : out.take (j + 1) = out.take j ++ [out[j]] := List.take_succ_eq_append_getElem hj'
      have hyes := atI_yes (kl := kl) (out := out.take j) (y := out[j]) (k := kl (mvS s ft))
      have hno := atI_no (kl := kl) (out := out.take j) (y := out[j]) (k := kl (mvS s ft))
      have hrg := atI_range kl (out.take j) (kl (mvS s ft))
      rw [← htk] at hyes hno
      rw [List.length_take, Nat.min_eq_left hj] at hyes hrg
      generalize out[j] = y at hgj hyw hyes hno
      generalize atI kl (out.take j) (kl (mvS s ft)) = at0 at hyes hno hrg ⊢
      have hal := alikeF y (mvS s ft) hyw.sm hwx.sm
      by_cases hneg : at0 < 0
      · cases he : eqS y (mvS s ft) with
        | true =>
          rw [he] at hal
          have hnx := hyes hneg (by rw [eqS_iff.1 he])
          refine wk ?_
          ((try (first | intro K ms hms hK | intro K hK)); (first | apply Chain.go | apply Chain.goD); exact rfl; exact rfl; exact Loc.loadEn rfl rfl rfl hgj rfl rfl)
          refine wk ?_
          ((try (first | intro K ms hms hK | intro K hK)); (first | apply Chain.go | apply Chain.goD); exact rfl; exact rfl; refine Loc.callD (hal) rfl ?_; (repeat (first | exact trivial | refine ⟨.inl rfl, ?_⟩ | refine ⟨.inr rfl, ?_⟩)))
          refine wk ?_
          exact ⟨j + 1, by omega, by omega, ⟨rfl, rfl, rfl, rfl, rfl, rfl, by rw [hnx]; rfl, rfl, rfl, trivial⟩, ⟨rfl, rfl, rfl, trivial⟩⟩
        | false =>
          rw [he] at hal
          have hnx := hno fun h => by
            have := hinj _ _ hyw hwx h.2
            rw [eqS_iff.2 this] at he
            cases he
          refine wk ?_
          ((try (first | intro K ms hms hK | intro K hK)); (first | apply Chain.go | apply Chain.goD); exact rfl; exact rfl; exact Loc.loadEn rfl rfl rfl hgj rfl rfl)
          refine wk ?_
          ((try (first | intro K ms hms hK | intro K hK)); (first | apply Chain.go | apply Chain.goD); exact rfl; exact rfl; refine Loc.callD (hal) rfl ?_; (repeat (first | exact trivial | refine ⟨.inl rfl, ?_⟩ | refine ⟨.inr rfl, ?_⟩)))
          refine wk ?_
          exact ⟨j + 1, by omega, by omega, ⟨rfl, rfl, rfl, rfl, rfl, rfl, by rw [hnx]; rfl, rfl, rfl, trivial⟩, ⟨rfl, rfl, rfl, trivial⟩⟩
      · have hnx := hno fun h => hneg h.1
        refine wk ?_
        exact ⟨j + 1, by omega, by omega, ⟨rfl, rfl, rfl, rfl, rfl, rfl, by rw [hnx]; rfl, rfl, rfl, trivial⟩, ⟨rfl, rfl, rfl, trivial⟩⟩
    · obtain rfl : j = out.length := by omega
      rw [List.take_length]
      rcases hat with ⟨h3, hst⟩ | ⟨h3, hst⟩
      · rw [hst] at hsucc
        obtain ⟨r1, r2⟩ := atI_range kl out (kl (mvS s ft))
        generalize atI kl out (kl (mvS s ft)) = at0 at h3 hst hsucc r2 ⊢
        obtain ⟨m, rfl⟩ : ∃ m : Nat, at0 = (m : Int) := ⟨at0.toNat, by omega⟩
        refine wk ?_
        have hsh2 := hsh.found (i := m) (by simp only; omega)
        refine ⟨i + 1, ⟨by omega, by rw [hsucc]; exact hsh2, by rw [hsucc]; exact hwf⟩, by omega, ⟨by rw [hsucc]; rfl, rfl, rfl, rfl, rfl, trivial⟩, ⟨by rw [hsucc]; rfl, by rw [hsucc, enZ_snoc]; rfl, trivial⟩⟩
      · rw [hst] at hsucc
        have hnone : ∀ y ∈ out, kl y ≠ kl (mvS s ft) := by
          unfold atI at h3
          cases hf : fiK kl out (kl (mvS s ft)) with
          | some i => rw [hf] at h3; simp only at h3; omega
          | none => exact fiK_none kl hf
        rw [h3]
        refine wk ?_
        rw [hlen1]
        refine wk ?_
        have hsh2 := hsh.new (x := mvS s ft) hnone
        refine ⟨i + 1, ⟨by omega, by rw [hsucc]; exact hsh2, by rw [hsucc]; exact fun y hy => (List.mem_append.1 hy).elim (hwf y) fun h => by rw [List.mem_singleton.1 h]; exact hwx⟩, by omega, ⟨by rw [hsucc]; simp only [List.length_append, List.length_cons, List.length_nil]; rfl, rfl, rfl, rfl, rfl, trivial⟩, ⟨by rw [hsucc]; simp only [List.length_append, List.length_cons, List.length_nil, List.map_append]; rfl, by rw [hsucc, enZ_snoc]; rfl, trivial⟩⟩
  · obtain rfl : i = l.length := by omega
    rw [List.take_length]
    refine wk ?_
    exact ⟨.d rfl ⟨_, _, rfl⟩, .d rfl ⟨_, _, rfl⟩, trivial⟩
end Go.Proofs.YtfijmpmojhlnmaaGreatDoor
namespace Go.Proofs.YtfijmpmojhlnmaaGreatDoor
open Go.RowKit
attribute [local irreducible] AC Do St
set_option maxRecDepth 100000 in
set_option maxHeartbeats 2000000 in
theorem refSame (a b : List Stp) (r : Bool) (hr : r = true ↔ a = b) (ha : a.length ≤ 1000000000) (h1 : ∀ s ∈ a, SmS s) (h2 : ∀ s ∈ b, SmS s) : Fn Tryz.prog 14 [.d (.l (a.map enSQ)), .d (.l (b.map enSQ))] [.d (.v (.bool r))] := by
  have hf : ¬ a = b → r = false := fun h => by
    cases r with
    | true => exact absurd (hr.1 rfl) h
    | false => rfl
  refine Fn.of Tryz.func14 rfl (by kernel_rfl) Tryz.ntmps14 Tryz.results14 rfl fun w0 S0 => ?_
  refine wk ?_
  ((try (first | intro K ms hms hK | intro K hK)); (first | refine Chain.neq rfl rfl rfl rfl rfl (fun h3 => ?_) (fun h3 => ?_) | refine Chain.neqD rfl rfl rfl rfl rfl (fun h3 => ?_) (fun h3 => ?_)))
  · have : ¬ a = b := fun h => h3 (by rw [h])
    refine wk ?_
    rw [hf this]
    exact ⟨.d rfl (.inl rfl), trivial⟩
  · have hl : a.length = b.length := by omega
    refine wk ?_
    refine AC.loop (X := Nat) (fun i => ⟨[(0, .d (.l (a.map enSQ))), (1, .d (.l (b.map enSQ))), (12, .d (.v (.int .i64 (a.length : Int)))), (13, .d (.v (.int .i64 (i : Int))))], []⟩) (fun i => i ≤ a.length ∧ a.take i = b.take i) (fun i => a.length - i) 0 ⟨Nat.zero_le _, rfl⟩ ⟨rfl, rfl, rfl, rfl, trivial⟩ trivial ?_
    intro i ⟨hi, heq⟩
    refine wk ?_
    ((try (first | intro K ms hms hK | intro K hK)); (first | refine Chain.lss rfl rfl rfl rfl rfl (fun h4 => ?_) (fun h4 => ?_) | refine Chain.lssD rfl rfl rfl rfl rfl (fun h4 => ?_) (fun h4 => ?_)))
    · have hi' : i < a.length := by omega
      have hi2 : i < b.length := by omega
      have hga : a[i]? = some a[i] := List.getElem?_eq_getElem hi'
      have hgb : b[i]? = some b[i] := List.getElem?_eq_getElem hi2
      have hba := h1 _ (List.getElem_mem hi')
      have hbb := h2 _ (List.getElem_mem hi2)
      have hs : a[i] = b[i] → a.take (i + 1) = b.take (i + 1) := fun h => by rw [List.take_succ_eq_append_getElem hi', List.take_succ_eq_append_getElem hi2, heq, h]
      have hn : ¬ a[i] = b[i] → ¬ a = b := fun h h2 => h (by subst h2; rfl)
      generalize a[i] = x at hga hs hn hba
      generalize b[i] = y at hgb hs hn hbb
      have hal := alikeF x y hba hbb
      cases he : eqS x y with
      | true =>
        rw [he] at hal
        refine wk ?_
        ((try (first | intro K ms hms hK | intro K hK)); (first | apply Chain.go | apply Chain.goD); exact rfl; exact rfl; refine Loc.callD (hal) rfl ?_; (repeat (first | exact trivial | refine ⟨.inl rfl, ?_⟩ | refine ⟨.inr rfl, ?_⟩)))
        refine wk ?_
        exact ⟨i + 1, ⟨by omega, hs (eqS_iff.1 he)⟩, by omega, ⟨rfl, rfl, rfl, rfl, trivial⟩, trivial⟩
      | false =>
        rw [he] at hal
        have hne : ¬ x = y := fun h => by rw [eqS_iff.2 h] at he; cases he
        refine wk ?_
        ((try (first | intro K ms hms hK | intro K hK)); (first | apply Chain.go | apply Chain.goD); exact rfl; exact rfl; refine Loc.callD (hal) rfl ?_; (repeat (first | exact trivial | refine ⟨.inl rfl, ?_⟩ | refine ⟨.inr rfl, ?_⟩)))
        refine wk ?_
        rw [hf (hn hne)]
        exact ⟨.d rfl (.inl rfl), trivial⟩
    · rw [List.take_of_length_le (by omega), List.take_of_length_le (by omega)] at heq
      refine wk ?_
      rw [hr.2 heq]
      exact ⟨.d rfl (.inl rfl), trivial⟩
set_option maxRecDepth 100000 in
set_option maxHeartbeats 8000000 in
theorem refComp (kl : Stp → Lit) (hinj : ∀ x y, WfS x → WfS y → kl x = kl y → x = y) (l : List Stp) (h0 : 0 < l.length) (hl : l.length ≤ 300000) (hw : ∀ s ∈ l, WfS s) (hok : okS l) : Fn Tryz.prog 17 [.d (.l (l.map enSQ))] [.d (.l ((compL kl l).map enSQ))] := by
  have hsm : ∀ s ∈ l, SmS s := fun s hs => (hw s hs).sm
  have hsh := refShare kl hinj l hl hw hok
  have hS := share_shd (kl := kl) l
  have hokS := share_okS (kl := kl) hok
  have hsmS : ∀ y ∈ (share kl l).1, SmS y := fun y hy => by
    obtain ⟨s, q1, ft, _, rfl⟩ := share_mem y hy
    exact (hsm s q1).mv ft
  have hcomp : compL kl l = (cmL (share kl l).1 (needI (share kl l).1 ((share kl l).2.getD (l.length - 1) 0).toNat)).1 := rfl
  generalize compL kl l = res at hcomp ⊢
  generalize share kl l = a at hsh hS hokS hsmS hcomp
  obtain ⟨out, ft⟩ := a
  obtain ⟨hS1, hS2, _, hS4⟩ := hS
  dsimp only at hsh hokS hsmS hcomp hS1 hS2 hS4
  have hglast : ft[l.length - 1]? = some ft[l.length - 1] := List.getElem?_eq_getElem (by omega)
  obtain ⟨hr0, hr1⟩ := hS4 ft[l.length - 1] (List.getElem_mem (by omega))
  have hD : ft.getD (l.length - 1) 0 = ft[l.length - 1] := by rw [List.getD_eq_getElem?_getD, hglast]; rfl
  rw [hD] at hcomp
  generalize ft[l.length - 1] = last at hglast hr0 hr1 hcomp
  obtain ⟨m, rfl⟩ : ∃ m : Nat, last = (m : Int) := ⟨last.toNat, by omega⟩
  rw [Int.toNat_natCast] at hcomp
  have hneed := refNeed out (by omega) (fun s h => (hsmS s h).2.2.2) hokS m (by omega)
  have hnm : ∀ k ∈ needI out m, 0 ≤ k ∧ k < (out.length : Int) := fun k hk => by
    have := trues_mem hk
    omega
  have hnl : (needI out m).length ≤ m + 1 := trues_len _ _
  have hcl := cm_len out (needI out m)
  have hcs := fun i k => cm_succ out (nd := needI out m) (i := i) (k := k)
  generalize needI out m = nd at hneed hnm hcomp hnl hcl hcs
  refine Fn.of Tryz.func17 rfl (by kernel_rfl) Tryz.ntmps17 Tryz.results17 rfl fun w0 S0 => ?_
  refine wk ?_
  ((try (first | intro K ms hms hK | intro K hK)); (first | apply Chain.go | apply Chain.goD); exact rfl; exact rfl; refine Loc.callT (hsh) rfl ?_; (repeat (first | exact trivial | refine ⟨.inl rfl, ?_⟩ | refine ⟨.inr rfl, ?_⟩)))
  refine wk ?_
  ((try (first | intro K ms hms hK | intro K hK)); (first | apply Chain.go | apply Chain.goD); exact rfl; exact rfl; exact Loc.idxM (i := l.length - 1) rfl rfl rfl (by omega) hglast rfl)
  refine wk ?_
  ((try (first | intro K ms hms hK | intro K hK)); (first | apply Chain.go | apply Chain.goD); exact rfl; exact rfl; refine Loc.callD (hneed) rfl ?_; (repeat (first | exact trivial | refine ⟨.inl rfl, ?_⟩ | refine ⟨.inr rfl, ?_⟩)))
  refine wk ?_
  ((try (first | intro K ms hms hK | intro K hK)); (first | apply Chain.ef | apply Chain.efD); exact rfl; exact rfl; exact Do.makeM (f := fun v => [.v (.int .i64 v)]) (0 : Int) out.length out.length rfl rfl rfl rfl rfl rfl (Nat.le_refl _) (by omega); exact rfl; exact rfl)
  refine wk ?_
  refine AC.loop (X := Nat) (fun i => ⟨[(3, .d (.l (out.map enSQ))), (7, .r 26 i), (6, .r 25 0), (27, .d (enZ nd)), (28, .d (.v (.int .i64 (nd.length : Int)))), (29, .d (.v (.int .i64 (i : Int))))], [(25, .row 0 3 1 ((cmL out (nd.take i)).2.map fun v => [.v (.int .i64 v)])), (26, .row i 45 5 ((cmL out (nd.take i)).1.map enSQ))]⟩) (fun i => i ≤ nd.length) (fun i => nd.length - i) 0 (Nat.zero_le _) ⟨rfl, rfl, rfl, rfl, rfl, rfl, trivial⟩ ⟨rfl, rfl, trivial⟩ ?_
  intro i hi
  refine wk ?_
  ((try (first | intro K ms hms hK | intro K hK)); (first | refine Chain.lss rfl rfl rfl rfl rfl (fun h1 => ?_) (fun h1 => ?_) | refine Chain.lssD rfl rfl rfl rfl rfl (fun h1 => ?_) (fun h1 => ?_)))
  · have hi' : i < nd.length := by omega
    have hget : nd[i]? = some nd[i] := List.getElem?_eq_getElem hi'
    obtain ⟨hk0, hk1⟩ := hnm nd[i] (List.getElem_mem hi')
    have hsucc := hcs i _ hget
    obtain ⟨hc1, hc2⟩ := hcl i hi
    generalize nd[i] = k at hget hk0 hk1 hsucc
    have hkl : k.toNat < out.length := by omega
    have hgo : out[k.toNat]? = some out[k.toNat] := List.getElem?_eq_getElem hkl
    have hgD : out.getD k.toNat ⟨0, [], 0, [], []⟩ = out[k.toNat] := by rw [List.getD_eq_getElem?_getD, hgo]; rfl
    obtain ⟨hs1, hs2, hs3, hs4⟩ := hsmS out[k.toNat] (List.getElem_mem hkl)
    have hpr : ∀ j ∈ out[k.toNat].pr, 0 ≤ j ∧ j < (k.toNat : Int) := fun j hj => okTo_pr hokS hgo hj
    unfold cmStep at hsucc
    rw [hgD, hc1] at hsucc
    generalize out[k.toNat] = s at hgo hsucc hs1 hs2 hs3 hs4 hpr
    generalize cmL out (nd.take i) = a at hsucc hc1 hc2 ⊢
    obtain ⟨ro, nw⟩ := a
    dsimp only at hsucc hc1 hc2 ⊢
    have hnwl : (nw.map fun v => [D.v (.int .i64 v)]).length = out.length := by rw [List.length_map]; exact hc2
    have hgw : nw[k.toNat]? = some (nw[k.toNat]'(by omega)) := List.getElem?_eq_getElem _
    refine wk ?_
    ((try (first | intro K ms hms hK | intro K hK)); (first | apply Chain.go | apply Chain.goD); exact rfl; exact rfl; exact Loc.idxR (i := k.toNat) rfl rfl rfl rfl (by omega) (by omega) rfl)
    ((try (first | intro K ms hms hK | intro K hK)); (first | apply Chain.st | apply Chain.stD); exact rfl; exact rfl; exact Do.setM (i : Int) rfl rfl rfl hgw rfl rfl rfl rfl rfl rfl; exact rfl; exact rfl)
    refine wk ?_
    ((try (first | intro K ms hms hK | intro K hK)); (first | apply Chain.go | apply Chain.goD); exact rfl; exact rfl; exact Loc.idxM (i := k.toNat) rfl rfl rfl (by omega) hgo rfl)
    refine wk ?_
    ((try (first | intro K ms hms hK | intro K hK)); (first | apply Chain.ef | apply Chain.efD); exact rfl; exact rfl; (refine Do.callKr (turnedF s (nw.set k.toNat (i : Int)) (by omega) (fun j hj => by have := hpr j hj; rw [List.length_set]; omega)) rfl rfl rfl rfl ?_ ?_ <;> (first | exact trivial | repeat (first | exact trivial | refine ⟨.inl rfl, ?_⟩ | refine ⟨.inr rfl, ?_⟩))); exact rfl; exact rfl)
    refine wk ?_
    refine ⟨i + 1, by omega, by omega, ⟨rfl, rfl, rfl, rfl, rfl, rfl, trivial⟩, ⟨by rw [hsucc]; rfl, by rw [hsucc]; simp only [List.map_append]; rfl, trivial⟩⟩
  · obtain rfl : i = nd.length := by omega
    rw [List.take_length, ← hcomp]
    refine wk ?_
    exact ⟨.d rfl ⟨_, _, rfl⟩, trivial⟩
end Go.Proofs.YtfijmpmojhlnmaaGreatDoor
