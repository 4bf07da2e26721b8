/-
  Compacting what is compacted changes nothing. No program in sight.
-/
import Derived.Test.YtfijmpmojhlnmaaGreatDoorCmpF
namespace Go.Proofs.YtfijmpmojhlnmaaGreatDoor
open Go.RowKit
theorem markPr_true (nd : List Bool) (pr : List Int) (k : Nat) : (markPr nd pr).getD k false = true ↔ nd.getD k false = true ∨ (k < nd.length ∧ ∃ p ∈ pr, p.toNat = k) := by
  unfold markPr
  induction pr generalizing nd with
  | nil => simp
  | cons p r ih =>
    rw [List.foldl_cons, ih, List.length_set]
    simp only [List.getD_eq_getElem?_getD, List.getElem?_set, List.mem_cons, exists_eq_or_imp]
    constructor
    · rintro (h | ⟨h1, h2⟩)
      · split at h
        · rename_i e
          split at h
          · rename_i h3; exact .inr ⟨by omega, .inl e⟩
          · simp at h
        · exact .inl h
      · exact .inr ⟨h1, .inr h2⟩
    · rintro (h | ⟨h1, h2 | h2⟩)
      · left
        split
        · rename_i e
          split
          · rfl
          · rename_i h3
            rw [List.getElem?_eq_none (by omega)] at h
            simp at h
        · exact h
      · left
        rw [if_pos h2, if_pos (by omega)]
        rfl
      · exact .inr ⟨h1, h2⟩
/-- What is known while the needed steps are marked, from above down to n. -/
structure Mk (l : List Stp) (a n : Nat) (nd : List Bool) : Prop where
  len : nd.length = a + 1
  top : nd.getD a false = true
  cl : ∀ i s, n ≤ i → i ≤ a → l[i]? = some s → nd.getD i false = true → ∀ p ∈ s.pr, nd.getD p.toNat false = true
  mi : ∀ k, nd.getD k false = true → k = a ∨ ∃ i s, k < i ∧ i ≤ a ∧ l[i]? = some s ∧ nd.getD i false = true ∧ ∃ p ∈ s.pr, p.toNat = k
theorem Mk.down {l : List Stp} (hok : okS l) {a : Nat} (ha : a < l.length) : ∀ (n : Nat) (nd : List Bool), n ≤ a + 1 → Mk l a n nd → Mk l a 0 (needDown l n nd)
  | 0, nd, _, h => h
  | n + 1, nd, hn, h => by
    have hget : l[n]? = some l[n] := List.getElem?_eq_getElem (by omega)
    have hlD : l.getD n ⟨0, [], 0, [], []⟩ = l[n] := by rw [List.getD_eq_getElem?_getD, hget]; rfl
    rw [needDown, hlD]
    refine Mk.down hok ha n _ (by omega) ?_
    split
    · rename_i hb
      have hup : ∀ k, nd.getD k false = true → (markPr nd l[n].pr).getD k false = true := fun k hk => (markPr_true _ _ _).2 (.inl hk)
      have hge : ∀ k, n ≤ k → (markPr nd l[n].pr).getD k false = true → nd.getD k false = true := fun k hk h2 => by
        rcases (markPr_true _ _ _).1 h2 with h3 | ⟨_, p, hp, e⟩
        · exact h3
        · have := okTo_pr hok hget hp; omega
      refine ⟨by rw [markPr_len]; exact h.len, hup _ h.top, fun i s h1 h2 h3 h4 p hp => ?_, fun k hk => ?_⟩
      · by_cases e : i = n
        · subst e
          rw [hget] at h3
          injection h3 with h3
          rw [← h3] at hp
          have := okTo_pr hok hget hp
          exact (markPr_true _ _ _).2 (.inr ⟨by rw [h.len]; omega, p, hp, rfl⟩)
        · exact hup _ (h.cl i s (by omega) h2 h3 (hge i h1 h4) p hp)
      · rcases (markPr_true _ _ _).1 hk with h3 | ⟨_, p, hp, e⟩
        · rcases h.mi k h3 with h4 | ⟨i, s, q1, q2, q3, q4, q5⟩
          · exact .inl h4
          · exact .inr ⟨i, s, q1, q2, q3, hup _ q4, q5⟩
        · have := okTo_pr hok hget hp
          exact .inr ⟨n, l[n], by omega, by omega, hget, hup _ hb, p, hp, e⟩
    · rename_i hb
      refine ⟨h.len, h.top, fun i s h1 h2 h3 h4 p hp => ?_, h.mi⟩
      by_cases e : i = n
      · subst e
        exact absurd h4 hb
      · exact h.cl i s (by omega) h2 h3 h4 p hp
theorem need_mk {l : List Stp} (hok : okS l) {a : Nat} (ha : a < l.length) : Mk l a 0 (need0 l a) := by
  refine Mk.down hok ha (a + 1) _ (Nat.le_refl _) ⟨by simp, by simp [List.getD_eq_getElem?_getD], fun i s h1 h2 => by omega, fun k hk => ?_⟩
  rw [List.getD_eq_getElem?_getD, List.getElem?_set] at hk
  split at hk
  · rename_i e; exact .inl e.symm
  · rw [List.getElem?_replicate] at hk
    split at hk <;> simp at hk
/-- The needed places, as numbers. -/
def nN (l : List Stp) (a : Nat) : List Nat := (List.range (a + 1)).filter fun i => (need0 l a).getD i false
theorem needI_nN (l : List Stp) (a : Nat) : needI l a = (nN l a).map Int.ofNat := rfl
theorem nN_mem {l : List Stp} {a k : Nat} : k ∈ nN l a ↔ k ≤ a ∧ (need0 l a).getD k false = true := by
  unfold nN
  rw [List.mem_filter, List.mem_range]
  constructor
  · rintro ⟨h1, h2⟩; exact ⟨by omega, h2⟩
  · rintro ⟨h1, h2⟩; exact ⟨by omega, h2⟩
theorem nN_sorted (l : List Stp) (a : Nat) : (nN l a).Pairwise (· < ·) := by
  unfold nN
  exact List.Pairwise.filter _ List.pairwise_lt_range
theorem idx_at {L : List Nat} (h : L.Pairwise (· < ·)) : ∀ (i : Nat) (hi : i < L.length), L.idxOf L[i] = i := by
  intro i hi
  induction L generalizing i with
  | nil => simp at hi
  | cons x r ih =>
    rw [List.pairwise_cons] at h
    cases i with
    | zero => simp
    | succ i =>
      have hi' : i < r.length := by simpa using hi
      have hlt := h.1 r[i] (List.getElem_mem hi')
      rw [List.getElem_cons_succ, List.idxOf_cons]
      have hne : (x == r[i]) = false := by simp; omega
      rw [hne]
      simp only [cond_false]
      rw [ih h.2 i hi']
/-- The step with the places of its premises in a list of places. -/
def mvP (L : List Nat) (s : Stp) : Stp := ⟨s.rule, s.cl, s.idx, s.pr.map fun p => (L.idxOf p.toNat : Int), s.tm⟩
def stD : Stp := ⟨0, [], 0, [], []⟩
theorem cm_char {sh : List Stp} {L : List Nat} (hs : L.Pairwise (· < ·)) (hlt : ∀ k ∈ L, k < sh.length) (hcl : ∀ i (h : i < L.length), ∀ p ∈ (sh.getD L[i] stD).pr, 0 ≤ p ∧ p < L[i] ∧ p.toNat ∈ L) : ∀ i, i ≤ L.length →
    (cmL sh ((L.map Int.ofNat).take i)).2.length = sh.length ∧ (∀ q (h : q < L.length), q < i → (cmL sh ((L.map Int.ofNat).take i)).2[L[q]]? = some (q : Int)) ∧ (cmL sh ((L.map Int.ofNat).take i)).1 = (L.take i).map fun k => mvP L (sh.getD k stD)
  | 0, _ => by simp [cmL]
  | i + 1, hi => by
    obtain ⟨h1, h2, h3⟩ := cm_char hs hlt hcl i (by omega)
    have hi' : i < L.length := by omega
    have hget : (L.map Int.ofNat)[i]? = some (L[i] : Int) := by rw [List.getElem?_map, List.getElem?_eq_getElem hi']; rfl
    have hk := hlt _ (List.getElem_mem hi')
    have hc := hcl i hi'
    have hlen : (cmL sh ((L.map Int.ofNat).take i)).1.length = i := by rw [h3]; simp; omega
    have hnew : ∀ q (h : q < L.length), q < i + 1 → ((cmL sh ((L.map Int.ofNat).take i)).2.set L[i] (i : Int))[L[q]]? = some (q : Int) := fun q hq hqi => by
      rw [List.getElem?_set]
      by_cases e : q = i
      · subst e
        rw [if_pos rfl, if_pos (by omega)]
      · have hlt2 : L[q] < L[i] := List.pairwise_iff_getElem.1 hs q i hq hi' (by omega)
        rw [if_neg (by omega)]
        exact h2 q hq (by omega)
    rw [cm_succ sh hget]
    unfold cmStep
    simp only [Int.toNat_natCast, hlen, List.length_set]
    refine ⟨h1, hnew, ?_⟩
    rw [List.take_succ_eq_append_getElem hi', List.map_append, h3]
    congr 1
    rw [List.map_cons, List.map_nil]
    congr 1
    unfold mvS mvP
    congr 1
    refine List.map_congr_left fun p hp => ?_
    obtain ⟨p0, p1, p2⟩ := hc p hp
    obtain ⟨q, hq, e⟩ := List.getElem_of_mem p2
    have hqi : q < i := by
      rcases Nat.lt_or_ge q i with h | h
      · exact h
      · have : L[i] ≤ L[q] := by
          rcases Nat.lt_or_ge i q with h4 | h4
          · exact Nat.le_of_lt (List.pairwise_iff_getElem.1 hs i q hi' hq h4)
          · have : q = i := by omega
            subst this; exact Nat.le_refl _
        omega
    rw [← e, idx_at hs q hq, List.getD_eq_getElem?_getD, hnew q hq (by omega)]
    rfl
theorem getD_get {l : List Stp} {k : Nat} (h : k < l.length) : l.getD k stD = l[k] := by rw [List.getD_eq_getElem?_getD, List.getElem?_eq_getElem h]; rfl
theorem map_inj_on2 {α β : Type} {f : α → β} {P : α → Prop} (hf : ∀ x y, P x → P y → f x = f y → x = y) : ∀ {l m : List α}, (∀ x ∈ l, P x) → (∀ x ∈ m, P x) → l.map f = m.map f → l = m
  | [], [], _, _, _ => rfl
  | [], y :: m, _, _, h => by simp at h
  | x :: l, [], _, _, h => by simp at h
  | x :: l, y :: m, h1, h2, h => by
    simp only [List.map_cons, List.cons.injEq] at h
    rw [hf x y (h1 x (by simp)) (h2 y (by simp)) h.1, map_inj_on2 hf (fun z hz => h1 z (List.mem_cons_of_mem _ hz)) (fun z hz => h2 z (List.mem_cons_of_mem _ hz)) h.2]
section
variable {out : List Stp} {m : Nat}
def cmp (out : List Stp) (m : Nat) : List Stp := (nN out m).map fun k => mvP (nN out m) (out.getD k stD)
theorem nN_lt (hm : m < out.length) : ∀ k ∈ nN out m, k < out.length := fun k hk => by have := (nN_mem.1 hk).1; omega
theorem nN_cl (hok : okS out) (hm : m < out.length) (k : Nat) (hk : k ∈ nN out m) : ∀ p ∈ (out.getD k stD).pr, 0 ≤ p ∧ p < k ∧ p.toNat ∈ nN out m := fun p hp => by
  have hkl := nN_lt hm k hk
  rw [getD_get hkl] at hp
  have hget : out[k]? = some out[k] := List.getElem?_eq_getElem hkl
  have h1 := okTo_pr hok hget hp
  obtain ⟨h2, h3⟩ := nN_mem.1 hk
  exact ⟨h1.1, h1.2, nN_mem.2 ⟨by omega, (need_mk hok hm).cl k _ (Nat.zero_le _) h2 hget h3 p hp⟩⟩
theorem comp_cmp (hok : okS out) (hm : m < out.length) : (cmL out (needI out m)).1 = cmp out m := by
  rw [needI_nN]
  have := (cm_char (sh := out) (nN_sorted out m) (nN_lt hm) (fun i h => nN_cl hok hm _ (List.getElem_mem h)) (nN out m).length (Nat.le_refl _)).2.2
  rw [List.take_of_length_le (by simp), List.take_of_length_le (Nat.le_refl _)] at this
  exact this
theorem nN_top (hok : okS out) (hm : m < out.length) : m ∈ nN out m := nN_mem.2 ⟨Nat.le_refl _, (need_mk hok hm).top⟩
theorem nN_pos (hok : okS out) (hm : m < out.length) : 0 < (nN out m).length := List.length_pos_of_mem (nN_top hok hm)
theorem cmp_len : (cmp out m).length = (nN out m).length := by unfold cmp; rw [List.length_map]
theorem cmp_get {i : Nat} (h : i < (nN out m).length) : (cmp out m)[i]? = some (mvP (nN out m) (out.getD (nN out m)[i] stD)) := by
  unfold cmp
  rw [List.getElem?_map, List.getElem?_eq_getElem h]
  rfl
theorem idx_lt {L : List Nat} (hs : L.Pairwise (· < ·)) {i : Nat} (hi : i < L.length) {k : Nat} (hk : k ∈ L) (hlt : k < L[i]) : L.idxOf k < i := by
  obtain ⟨q, hq, e⟩ := List.getElem_of_mem hk
  rw [← e, idx_at hs q hq]
  rcases Nat.lt_or_ge q i with h | h
  · exact h
  · have : L[i] ≤ L[q] := by
      rcases Nat.lt_or_ge i q with h4 | h4
      · exact Nat.le_of_lt (List.pairwise_iff_getElem.1 hs i q hi hq h4)
      · have : q = i := by omega
        subst this; exact Nat.le_refl _
    omega
theorem idx_inj {L : List Nat} {a b : Nat} (ha : a ∈ L) (hb : b ∈ L) (hs : L.Pairwise (· < ·)) (h : L.idxOf a = L.idxOf b) : a = b := by
  obtain ⟨q, hq, rfl⟩ := List.getElem_of_mem ha
  obtain ⟨r, hr, rfl⟩ := List.getElem_of_mem hb
  rw [idx_at hs q hq, idx_at hs r hr] at h
  subst h
  rfl
theorem cmp_ok (hok : okS out) (hm : m < out.length) : okS (cmp out m) := fun i hi _ => by
  rw [cmp_len] at hi
  have hg := cmp_get hi
  obtain ⟨h1, h2⟩ := List.getElem?_eq_some_iff.1 hg
  rw [h2]
  refine List.any_eq_false.2 fun p hp => ?_
  obtain ⟨k, hk, rfl⟩ := List.mem_map.1 hp
  obtain ⟨q1, q2, q3⟩ := nN_cl hok hm _ (List.getElem_mem hi) k hk
  have := idx_lt (nN_sorted out m) hi q3 (by omega)
  simp only [Bool.or_eq_true, decide_eq_true_eq, not_or]
  omega
theorem cmp_inj (hok : okS out) (hm : m < out.length) (hnd : out.Nodup) {i j : Nat} (hi : i < (nN out m).length) (hj : j < (nN out m).length) (h : mvP (nN out m) (out.getD (nN out m)[i] stD) = mvP (nN out m) (out.getD (nN out m)[j] stD)) : i = j := by
  have ci := nN_cl hok hm _ (List.getElem_mem hi)
  have cj := nN_cl hok hm _ (List.getElem_mem hj)
  have li := nN_lt hm _ (List.getElem_mem hi)
  have lj := nN_lt hm _ (List.getElem_mem hj)
  unfold mvP at h
  obtain ⟨h1, h2, h3, h4, h5⟩ := Stp.mk.inj h
  have h4 := map_inj_on2 (P := fun p : Int => 0 ≤ p ∧ p.toNat ∈ nN out m) (fun x y hx hy e => by
    have e : (((nN out m).idxOf x.toNat : Nat) : Int) = (((nN out m).idxOf y.toNat : Nat) : Int) := e
    have := idx_inj hx.2 hy.2 (nN_sorted out m) (by omega)
    omega) (fun p hp => ⟨(ci p hp).1, (ci p hp).2.2⟩) (fun p hp => ⟨(cj p hp).1, (cj p hp).2.2⟩) h4
  have he : out.getD (nN out m)[i] stD = out.getD (nN out m)[j] stD := by
    generalize out.getD (nN out m)[i] stD = x at h1 h2 h3 h4 h5
    generalize out.getD (nN out m)[j] stD = y at h1 h2 h3 h4 h5
    obtain ⟨a, b, c, d, e⟩ := x
    obtain ⟨a', b', c', d', e'⟩ := y
    simp only at h1 h2 h3 h4 h5
    rw [h1, h2, h3, h4, h5]
  rw [getD_get li, getD_get lj] at he
  have hk : (nN out m)[i] = (nN out m)[j] := (List.getElem_inj hnd).1 he
  have e1 := idx_at (nN_sorted out m) i hi
  have e2 := idx_at (nN_sorted out m) j hj
  rw [hk] at e1
  omega
theorem cmp_nodup (hok : okS out) (hm : m < out.length) (hnd : out.Nodup) : (cmp out m).Nodup := by
  refine List.pairwise_iff_getElem.2 fun i j hi hj hij => fun e => ?_
  have hi' : i < (nN out m).length := by rw [cmp_len] at hi; exact hi
  have hj' : j < (nN out m).length := by rw [cmp_len] at hj; exact hj
  have e1 := (List.getElem?_eq_some_iff.1 (cmp_get hi')).2
  have e2 := (List.getElem?_eq_some_iff.1 (cmp_get hj')).2
  rw [e1, e2] at e
  have := cmp_inj hok hm hnd hi' hj' e
  omega
theorem cmp_need (hok : okS out) (hm : m < out.length) : needI (cmp out m) ((cmp out m).length - 1) = (List.range (cmp out m).length).map Int.ofNat := by
  have hn := nN_pos hok hm
  have hokR := cmp_ok hok hm
  have hRl : (cmp out m).length - 1 < (cmp out m).length := by rw [cmp_len]; omega
  have mk := need_mk hokR hRl
  have mo := need_mk hok hm
  have hall : ∀ d i, i + d = (nN out m).length - 1 → (need0 (cmp out m) ((cmp out m).length - 1)).getD i false = true := by
    intro d
    induction d using Nat.strongRecOn with
    | _ d ih =>
      intro i hid
      have hi : i < (nN out m).length := by omega
      obtain ⟨k1, k2⟩ := nN_mem.1 (List.getElem_mem hi)
      rcases mo.mi _ k2 with e | ⟨i2, s, q1, q2, q3, q4, p, q5, q6⟩
      · have hlast : i = (nN out m).length - 1 := by
          rcases Nat.lt_or_ge i ((nN out m).length - 1) with h | h
          · have h3 := List.pairwise_iff_getElem.1 (nN_sorted out m) i ((nN out m).length - 1) hi (by omega) h
            have h4 := (nN_mem.1 (List.getElem_mem (l := nN out m) (n := (nN out m).length - 1) (by omega))).1
            omega
          · omega
        rw [hlast, ← cmp_len]
        exact mk.top
      · obtain ⟨j, hj, ej⟩ := List.getElem_of_mem (nN_mem.2 ⟨q2, q4⟩)
        have hij : i < j := by
          rcases Nat.lt_or_ge i j with h | h
          · exact h
          · have : (nN out m)[j] ≤ (nN out m)[i] := by
              rcases Nat.lt_or_ge j i with h4 | h4
              · exact Nat.le_of_lt (List.pairwise_iff_getElem.1 (nN_sorted out m) j i hj hi h4)
              · have : j = i := by omega
                subst this; exact Nat.le_refl _
            omega
        have hR := cmp_get hj
        have hs : out.getD (nN out m)[j] stD = s := by rw [ej, List.getD_eq_getElem?_getD, q3]; rfl
        rw [hs] at hR
        have hjn := ih ((nN out m).length - 1 - j) (by omega) j (by omega)
        have := mk.cl j _ (Nat.zero_le _) (by rw [cmp_len]; omega) hR hjn _ (List.mem_map.2 ⟨p, q5, rfl⟩)
        rw [Int.toNat_natCast, q6, idx_at (nN_sorted out m) i hi] at this
        exact this
  have hs : (cmp out m).length - 1 + 1 = (cmp out m).length := by omega
  show trues _ ((cmp out m).length - 1 + 1) = _
  rw [hs]
  unfold trues
  congr 1
  refine List.filter_eq_self.2 fun i hi => ?_
  have hi := List.mem_range.1 hi
  rw [cmp_len] at hi
  exact hall ((nN out m).length - 1 - i) i (by omega)
end
theorem mvS_id {s : Stp} {n : Nat} (h : ∀ p ∈ s.pr, 0 ≤ p ∧ p < (n : Int)) : mvS s ((List.range n).map Int.ofNat) = s := by
  obtain ⟨a, b, c, d, e⟩ := s
  unfold mvS
  dsimp only at h ⊢
  congr 1
  conv => rhs; rw [← List.map_id d]
  refine List.map_congr_left fun p hp => ?_
  have := h p hp
  rw [List.getD_eq_getElem?_getD, List.getElem?_map, List.getElem?_range (by omega)]
  simp
  omega
theorem share_id {kl : Stp → Lit} {R : List Stp} (hok : okS R) (hnd : R.Nodup) (hinj : ∀ x ∈ R, ∀ y ∈ R, kl x = kl y → x = y) : ∀ i, i ≤ R.length → share kl (R.take i) = (R.take i, (List.range i).map Int.ofNat)
  | 0, _ => by simp [share]
  | i + 1, hi => by
    have hi' : i < R.length := by omega
    have hget : R[i]? = some R[i] := List.getElem?_eq_getElem hi'
    rw [share_succ kl hget, share_id hok hnd hinj i (by omega)]
    have hid : mvS R[i] ((List.range i).map Int.ofNat) = R[i] := mvS_id fun p hp => okTo_pr hok hget hp
    rcases shStep_cases kl (R.take i, (List.range i).map Int.ofNat) R[i] with ⟨j, hj, e1, _⟩ | ⟨_, e⟩
    · dsimp only at hj e1
      rw [hid] at e1
      have hj' : j < i := by rw [List.length_take] at hj; omega
      have h2 : (R.take i)[j] = R[j] := by rw [List.getElem_take]
      rw [h2] at e1
      have e3 := hinj _ (List.getElem_mem (by omega)) _ (List.getElem_mem hi') e1
      have := (List.getElem_inj hnd).1 e3
      omega
    · rw [e]
      dsimp only
      rw [hid, List.take_succ_eq_append_getElem hi', List.length_take, Nat.min_eq_left (by omega), List.range_succ, List.map_append]
      rfl
theorem mvP_id {s : Stp} {n : Nat} (h : ∀ p ∈ s.pr, 0 ≤ p ∧ p < (n : Int)) : mvP (List.range n) s = s := by
  obtain ⟨a, b, c, d, e⟩ := s
  unfold mvP
  dsimp only at h ⊢
  congr 1
  conv => rhs; rw [← List.map_id d]
  refine List.map_congr_left fun p hp => ?_
  have hp' := h p hp
  have h1 : p.toNat < (List.range n).length := by simp; omega
  have h2 := idx_at (L := List.range n) List.pairwise_lt_range p.toNat h1
  rw [List.getElem_range] at h2
  rw [h2]
  simp
  omega
theorem cm_id {R : List Stp} (hok : okS R) : (cmL R ((List.range R.length).map Int.ofNat)).1 = R := by
  have hcl : ∀ i (h : i < (List.range R.length).length), ∀ p ∈ (R.getD (List.range R.length)[i] stD).pr, 0 ≤ p ∧ p < (List.range R.length)[i] ∧ p.toNat ∈ List.range R.length := fun i h p hp => by
    have hi : i < R.length := by simpa using h
    rw [List.getElem_range, getD_get hi] at hp
    have := okTo_pr hok (List.getElem?_eq_getElem hi) hp
    rw [List.getElem_range, List.mem_range]
    omega
  have := (cm_char (sh := R) (L := List.range R.length) List.pairwise_lt_range (fun k hk => List.mem_range.1 hk) hcl R.length (by simp)).2.2
  rw [List.take_of_length_le (by simp), List.take_of_length_le (by simp)] at this
  rw [this]
  refine List.ext_getElem (by simp) fun i h1 h2 => ?_
  rw [List.getElem_map, List.getElem_range, getD_get h2]
  exact mvP_id fun p hp => by
    have := okTo_pr hok (List.getElem?_eq_getElem h2) hp
    omega
/-- Of a list without two alike, whose steps are all needed, the compacted list is the list itself. -/
theorem comp_id {kl : Stp → Lit} {R : List Stp} (h0 : 0 < R.length) (hok : okS R) (hnd : R.Nodup) (hinj : ∀ x ∈ R, ∀ y ∈ R, kl x = kl y → x = y) (hneed : needI R (R.length - 1) = (List.range R.length).map Int.ofNat) : compL kl R = R := by
  have hs := share_id hok hnd hinj R.length (Nat.le_refl _)
  rw [List.take_length] at hs
  unfold compL
  rw [hs]
  have hl : ((List.range R.length).map Int.ofNat).getD (R.length - 1) 0 = ((R.length - 1 : Nat) : Int) := by
    rw [List.getD_eq_getElem?_getD, List.getElem?_map, List.getElem?_range (by omega)]
    rfl
  simp only [hl, Int.toNat_natCast]
  rw [hneed]
  exact cm_id hok
/-- The compacted list's form. -/
theorem comp_form {kl : Stp → Lit} {l : List Stp} (h0 : 0 < l.length) (hok : okS l) : ∃ out m, out.Nodup ∧ okS out ∧ m < out.length ∧ out.length ≤ l.length ∧ (∀ y ∈ out, ∃ s ∈ l, ∃ ft : List Int, (∀ k ∈ ft, 0 ≤ k ∧ k < (l.length : Int)) ∧ y = mvS s ft) ∧ compL kl l = cmp out m := by
  have hS := share_shd (kl := kl) l
  have hokS := share_okS (kl := kl) hok
  have hmem := share_mem (kl := kl) (l := l)
  have hdef : compL kl l = (cmL (share kl l).1 (needI (share kl l).1 ((share kl l).2.getD (l.length - 1) 0).toNat)).1 := rfl
  generalize share kl l = a at hS hokS hmem hdef
  obtain ⟨out, ft⟩ := a
  obtain ⟨h1, h2, h3, h4⟩ := hS
  dsimp only at h1 h2 h3 h4 hokS hmem hdef
  have hm : (ft.getD (l.length - 1) 0).toNat < out.length := by
    rw [List.getD_eq_getElem?_getD, List.getElem?_eq_getElem (by omega)]
    have := h4 _ (List.getElem_mem (l := ft) (n := l.length - 1) (by omega))
    simp only [Option.getD_some]
    omega
  refine ⟨out, (ft.getD (l.length - 1) 0).toNat, List.Pairwise.of_map kl (fun a b h e => h (by rw [e])) h3, hokS, hm, h2, hmem, ?_⟩
  rw [hdef, comp_cmp hokS hm]
end Go.Proofs.YtfijmpmojhlnmaaGreatDoor
