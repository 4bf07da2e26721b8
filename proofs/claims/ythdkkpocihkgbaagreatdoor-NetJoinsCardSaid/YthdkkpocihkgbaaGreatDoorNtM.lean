/-
  The document of nets: step and eval as the program.
-/
import Derived.Test.YthdkkpocihkgbaaGreatDoorNtL
namespace Go.Proofs.YthdkkpocihkgbaaGreatDoor
open Go.RowKit
attribute [local irreducible] AC Do St
theorem dotT_add (b : Rat) (r x : List Rat) (j : Nat) : dotT b r x j = dotT 0 r x j + b := by
  unfold dotT
  generalize (r.zip x).take j = ps
  suffices h : ∀ (a c : Rat), ps.foldl (fun a p => a + p.1 * p.2) (a + c) = ps.foldl (fun a p => a + p.1 * p.2) a + c by
    have := h 0 b
    rwa [Rat.zero_add] at this
  induction ps with
  | nil => intro a c; rfl
  | cons p ps ih =>
    intro a c
    simp only [List.foldl_cons]
    rw [← ih, Rat.add_assoc, Rat.add_comm c, ← Rat.add_assoc]
theorem affD_eq (l : LN) (x : List Rat) : affD l x = affN l x := by
  unfold affD affN
  exact List.map_congr_left fun p _ => (dotT_add _ _ _ _).symm
theorem sgn_neg_iff (q : Rat) : sgnR q < 0 ↔ q.num < 0 := by
  unfold sgnR
  constructor
  · intro h
    split at h
    · assumption
    · split at h <;> omega
  · intro h
    rw [if_pos h]
    omega
theorem sgn_pos_iff (q : Rat) : 0 < sgnR q ↔ 0 < q.num := by
  unfold sgnR
  constructor
  · intro h
    split at h
    · omega
    · split at h
      · omega
      · omega
  · intro h
    rw [if_neg (by omega), if_neg (by omega)]
    omega
theorem relu_eq (x : List Rat) : reluD x = reluN x := by
  unfold reluD reluN
  refine List.map_congr_left fun q _ => ?_
  unfold cutR maxR
  have e : q - 0 = q := by rw [Rat.sub_eq_add_neg, Rat.neg_zero, Rat.add_zero]
  rw [e]
  by_cases h : sgnR q < 0
  · rw [if_pos h, if_neg (by omega)]
  · rw [if_neg h, if_pos (by omega)]
theorem upR_eq (a q : Rat) : upR a q = maxR a q := by
  unfold upR maxR
  have e : (q - a).num = -(a - q).num := by rw [← Rat.neg_sub, Rat.neg_num]
  have h1 := sgn_pos_iff (q - a)
  have h2 := sgn_neg_iff (a - q)
  rw [e] at h1
  by_cases h : 0 < sgnR (q - a)
  · rw [if_pos h, if_neg (by omega)]
  · rw [if_neg h, if_pos (by omega)]
theorem pool_eq (l : LN) (x : List Rat) : poolD l x = poolN l x := by
  unfold poolD poolN
  refine List.map_congr_left fun g _ => ?_
  unfold gD gT
  simp only [upR_eq]
theorem step15F {k m : Nat} (l : LN) (x : List Rat) (hk0 : 0 < k) (hb : bigL l = false) (hw : 0 < widN l x.length) (hx : x.length ≤ 32) (hbw : ∀ r ∈ l.W, ∀ q ∈ r, Bd k q) (hbb : ∀ q ∈ l.B, Bd k q) (hbx : ∀ q ∈ x, Bd m q) (hk : k + 33 * (k + m + 1) ≤ 50000000) :
    Fn Tryz.prog 26 [.g (enLD l), .d (enQs x)] [.d (enQs (stepN l x))] := by
  obtain ⟨q1, q3⟩ := bigL_out hb
  unfold widN at hw
  unfold stepN
  have hm : (x.length + 1) * (k + m + 1) ≤ 33 * (k + m + 1) := Nat.mul_le_mul_right _ (by omega)
  by_cases h1 : l.kind = 1
  · rw [if_pos h1] at hw ⊢
    by_cases hc : (decide (l.B.length ≠ l.W.length) || l.W.any fun r => decide ((r.length : Int) ≠ (x.length : Int))) = true
    · rw [if_pos hc] at hw
      omega
    · rw [Bool.not_eq_true, Bool.or_eq_false_iff] at hc
      have hB : l.B.length = l.W.length := by simpa using hc.1
      have hr : ∀ r ∈ l.W, r.length = x.length := fun r hr => by
        have := List.any_eq_false.1 hc.2 r hr
        simp at this
        omega
      rw [← affD_eq]
      exact stepDA l x h1 hk0 (q1 h1).1 hB hr (by omega) hbw hbb hbx (by omega)
  · rw [if_neg h1] at hw ⊢
    by_cases h2 : l.kind = 2
    · rw [if_pos h2, ← relu_eq]
      exact stepDR l x h2 (by omega)
    · rw [if_neg h2] at hw ⊢
      by_cases h3 : l.kind = 3
      · rw [if_pos h3] at hw
        by_cases hc : l.G.any (badG x.length) = true
        · rw [if_pos hc] at hw
          omega
        · rw [Bool.not_eq_true] at hc
          obtain ⟨g1, g2⟩ := q3 h3
          have hg : ∀ g ∈ l.G, g.length ≤ 32 ∧ g ≠ [] ∧ ∀ v ∈ g, 0 ≤ v ∧ v < x.length := fun g hg => by
            have h := List.any_eq_false.1 hc g hg
            rw [Bool.not_eq_true] at h
            unfold badG at h
            rw [Bool.or_eq_false_iff] at h
            refine ⟨g2 g hg, fun e => ?_, fun v hv => ?_⟩
            · rw [e] at h
              simp at h
            · have := List.any_eq_false.1 h.2 v hv
              simp at this
              omega
          rw [← pool_eq]
          exact stepDG l x h3 g1 hg hbx (by omega)
      · rw [if_neg h3] at hw
        omega
set_option maxRecDepth 100000 in
set_option maxHeartbeats 4000000 in
theorem eval15F {k m : Nat} (n : Int) (ls : List LN) (x : List Rat) (hk0 : 0 < k) (hg : greatB n ls = false) (hw : 0 < ls.foldl stW n) (hxn : (x.length : Int) = n) (hbw : ∀ l ∈ ls, ∀ r ∈ l.W, ∀ q ∈ r, Bd k q) (hbb : ∀ l ∈ ls, ∀ q ∈ l.B, Bd k q) (hbx : ∀ q ∈ x, Bd m q) (hk : szN k m ls.length ≤ 50000000) :
    Fn Tryz.prog 25 [.g (enDN n ls), .d (enQs x)] [.d (enQs (ls.foldl (fun x l => stepN l x) x))] := by
  obtain ⟨g1, g2, g3⟩ := great_out hg
  refine Fn.of Tryz.func25 rfl (by kernel_rfl) Tryz.ntmps25 Tryz.results25 rfl fun w0 S0 => ?_
  refine wk ?_
  refine AC.loop (X := Nat) (fun i => ⟨[(1, .d (enQs ((ls.take i).foldl (fun x l => stepN l x) x))), (8, .d (.l (ls.map enLD))), (9, .d (.v (.int .i64 (ls.length : Int)))), (10, .d (.v (.int .i64 (i : Int))))], []⟩) (fun i => i ≤ ls.length) (fun i => ls.length - i) 0 (Nat.zero_le _) ⟨rfl, rfl, rfl, rfl, trivial⟩ trivial ?_
  intro i hi
  dsimp only
  refine wk ?_
  refine s1 (fun h3 => ?_) (fun h3 => ?_)
  · have hi' : i < ls.length := by omega
    have hget : ls[i]? = some ls[i] := List.getElem?_eq_getElem hi'
    obtain ⟨a1, a2, a3⟩ := trace_inv g2 g3 hw hxn hbw hbb hbx hk i hi
    have hst := stW_pos hw (i + 1)
    have hp := stW_pos hw i
    have hfl : (ls.take (i + 1)).foldl (fun x l => stepN l x) x = stepN ls[i] ((ls.take i).foldl (fun x l => stepN l x) x) := by rw [List.take_succ_eq_append_getElem hi', List.foldl_append]; rfl
    rw [List.take_succ_eq_append_getElem hi', List.foldl_append] at hst
    have hs := szN_mono k m (i := i + 1) (j := ls.length) (by omega)
    have b1 := g2 _ (List.getElem_mem hi')
    have b2 := hbw _ (List.getElem_mem hi')
    have b3 := hbb _ (List.getElem_mem hi')
    generalize ls[i] = l at hget hst b1 b2 b3 hfl
    generalize (ls.take i).foldl (fun x l => stepN l x) x = y at a1 a2 a3 hfl ⊢
    generalize (ls.take i).foldl stW n = w at hst hp a1
    simp only [List.foldl_cons, List.foldl_nil] at hst
    have e : stW w l = widN l w := if_pos hp
    rw [e, ← a1] at hst
    have f1 := step15F l y hk0 b1 hst a2 b2 b3 a3 (Nat.le_trans hs hk)
    refine wk ?_
    refine c1 f1 ?_
    refine wk ?_
    exact ⟨i + 1, hi', by omega, ⟨by dsimp only; rw [hfl]; rfl, rfl, rfl, rfl, trivial⟩, trivial⟩
  · rw [List.take_of_length_le (by omega)]
    refine wk ?_
    exact ⟨.d rfl (.inl rfl), trivial⟩
end Go.Proofs.YthdkkpocihkgbaaGreatDoor
