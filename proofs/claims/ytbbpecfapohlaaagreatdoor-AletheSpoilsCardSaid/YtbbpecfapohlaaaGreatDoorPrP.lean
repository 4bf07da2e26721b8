import Derived.Test.YtbbpecfapohlaaaGreatDoorPrH
import Derived.Test.YtbbpecfapohlaaaGreatDoorPrE
namespace Go.Proofs.YtbbpecfapohlaaaGreatDoor
open Go.RowKit
attribute [local irreducible] AC Do St
mutual
/-- A word has no list, a list no word. -/
def nfX : ST → Prop
  | .mk b w l => (b = true → l = []) ∧ (b = false → w = []) ∧ nfXs l
def nfXs : List ST → Prop
  | [] => True
  | s :: r => nfX s ∧ nfXs r
end
theorem nfX_mk (b : Bool) (w : List UInt8) (l : List ST) : nfX (.mk b w l) = ((b = true → l = []) ∧ (b = false → w = []) ∧ nfXs l) := by rw [nfX]
theorem nfXs_mem : ∀ {l : List ST}, nfXs l → ∀ s ∈ l, nfX s
  | [], _, s, h => nomatch h
  | x :: r, h, s, hs => by
    rw [nfXs] at h
    rcases List.mem_cons.1 hs with rfl | hs
    · exact h.1
    · exact nfXs_mem h.2 s hs
theorem nfXs_all : ∀ {l : List ST}, (∀ s ∈ l, nfX s) → nfXs l
  | [], _ => by rw [nfXs]; trivial
  | x :: r, h => by rw [nfXs]; exact ⟨h x (by simp), nfXs_all fun s hs => h s (by simp [hs])⟩
theorem wdXs_all : ∀ (l : List ST), wdXs l = l.all wdX
  | [] => by rw [wdXs]; rfl
  | x :: r => by rw [wdXs, wdXs_all r]; rfl
/-- No word goes on here. -/
def endX : List UInt8 → Prop
  | [] => True
  | c :: _ => plainB c = false
theorem tw_end {w x : List UInt8} (hw : w.all plainB = true) (hx : endX x) : (w ++ x).takeWhile plainB = w ∧ (w ++ x).dropWhile plainB = x := by
  induction w with
  | nil =>
    cases x with
    | nil => exact ⟨rfl, rfl⟩
    | cons c r =>
      have hx : plainB c = false := hx
      exact ⟨by simp [hx], by simp [hx]⟩
  | cons c w ih =>
    rw [List.all_cons, Bool.and_eq_true] at hw
    obtain ⟨h1, h2⟩ := ih hw.2
    rw [List.cons_append, List.takeWhile_cons, List.dropWhile_cons, if_pos hw.1, if_pos hw.1, h1, h2]
    exact ⟨rfl, rfl⟩
theorem parseX_32 (f d : Nat) (s : List UInt8) (n : Int) : parseX f d (32 :: s) n = parseX f d s n := by
  rw [← parseX_sk, skX_blk (c := 32) (.inl rfl), parseX_sk]
theorem parseX_10 (f d : Nat) (s : List UInt8) (n : Int) : parseX f d (10 :: s) n = parseX f d s n := by
  rw [← parseX_sk, skX_blk (c := 10) (.inr (.inr (.inl rfl))), parseX_sk]
theorem putXs_tl (f d : Nat) (l : List ST) (x : List UInt8) (n : Int) : parseX f d (putXs l ++ x) n = parseX f d (tlX l ++ x) n := by
  cases l with
  | nil => rw [putXs, tlX]
  | cons s r => rw [putXs, tlX, List.cons_append, parseX_32]
theorem tlX_end (l : List ST) (x : List UInt8) : endX (tlX l ++ 41 :: x) := by
  cases l with
  | nil => rw [tlX]; rfl
  | cons s r => rw [tlX]; rfl
theorem putX_ne (s : ST) (h : wdX s = true) : putX s ≠ [] := by
  obtain ⟨b, w, l⟩ := s
  cases b with
  | true =>
    rw [wdX_t] at h
    rw [putX_t]
    intro e
    rw [e] at h
    cases h
  | false =>
    rw [putX_l]
    exact List.cons_ne_nil _ _
theorem parse_put : ∀ (m : Nat) (s : ST), szX s < m → nfX s → wdX s = true → ∀ (f d : Nat) (n : Int) (x : List UInt8), endX x → (putX s ++ x).length ≤ f → ¬ (100000 < n + 1 ∨ (s.b = false ∧ d = 200)) → (nuX s (n + 1) d).2 = true →
    parseX (f + 1) d (putX s ++ x) n = (parseX f d x (nuX s (n + 1) d).1).cons s := by
  intro m
  induction m with
  | zero => intro s h; omega
  | succ m ih =>
  intro s hm hnf hwd f d n x hx hf hn hnu
  obtain ⟨b, w, l⟩ := s
  rw [nfX_mk] at hnf
  cases b with
  | true =>
    obtain rfl := hnf.1 rfl
    rw [wdX_t, Bool.and_eq_true] at hwd
    obtain ⟨e1, e2⟩ := tw_end hwd.2 hx
    rw [putX_t, nuX_t]
    cases w with
    | nil => exact absurd hwd.1 (by decide)
    | cons c r =>
      have hc : plainB c = true := by have := hwd.2; rw [List.all_cons, Bool.and_eq_true] at this; exact this.1
      have k41 : ¬ c.toNat = 41 := fun h => by unfold plainB at hc; simp [h] at hc
      have k40 : ¬ c.toNat = 40 := fun h => by unfold plainB at hc; simp [h] at hc
      have hsk : skX false (c :: r ++ x) = c :: (r ++ x) := skX_stop (fun h => by unfold plainB at hc; simp [h] at hc) (fun h => by unfold plainB at hc; simp [h] at hc) (fun h => by unfold plainB at hc; simp [h] at hc) (fun h => by unfold plainB at hc; simp [h] at hc) (fun h => by unfold plainB at hc; simp [h] at hc)
      rw [parseX, hsk]
      dsimp only
      rw [if_neg k41, if_neg (fun h => hn (h.elim .inl fun h => absurd h.1 k40)), if_neg k40, if_pos hc]
      rw [List.cons_append] at e1 e2
      rw [e1, e2]
  | false =>
    obtain rfl := hnf.2.1 rfl
    rw [wdX_l, wdXs_all, List.all_eq_true] at hwd
    rw [nuX_l] at hnu ⊢
    have hln := nfXs_mem hnf.2.2
    have hlm : ∀ g ∈ l, szX g < m := fun g hg => by have := szX_lt (b := false) (w := []) hg; omega
    have row : ∀ (l : List ST), (∀ g ∈ l, szX g < m) → (∀ g ∈ l, wdX g = true) → (∀ g ∈ l, nfX g) → ∀ (f : Nat) (k : Int), (tlX l ++ 41 :: x).length ≤ f → (nuXs l k (d + 1)).2 = true → parseX f (d + 1) (tlX l ++ 41 :: x) k = .ok l x (nuXs l k (d + 1)).1 := by
      intro l
      induction l with
      | nil =>
        intro _ _ _ f k hf _
        rw [tlX, List.nil_append] at hf ⊢
        cases f with
        | zero => simp at hf
        | succ f =>
          rw [parseX, skX_stop (c := 41) (by decide) (by decide) (by decide) (by decide) (by decide)]
          dsimp only
          rw [if_pos (by decide), if_neg (by omega), nuXs]
      | cons s r ihr =>
        intro hlm hwd hln f k hf hk
        rw [tlX, List.cons_append, List.append_assoc] at hf ⊢
        rw [parseX_32]
        rw [nuXs] at hk ⊢
        split at hk
        · cases hk
        · rename_i h1
          rw [if_neg h1]
          split at hk
          · rename_i h2
            rw [if_pos h2]
            have hp := List.length_pos_iff.2 (putX_ne s (hwd s (by simp)))
            simp only [List.length_cons, List.length_append] at hf
            cases f with
            | zero => omega
            | succ f =>
              rw [ih s (hlm s (by simp)) (hln s (by simp)) (hwd s (by simp)) f (d + 1) k _ (tlX_end r x) (by simp only [List.length_append, List.length_cons]; omega) h1 h2]
              rw [ihr (fun g hg => hlm g (by simp [hg])) (fun g hg => hwd g (by simp [hg])) (fun g hg => hln g (by simp [hg])) f _ (by simp only [List.length_append, List.length_cons]; omega) hk]
              rfl
          · cases hk
    rw [putX_l, List.cons_append] at hf ⊢
    simp only [List.length_cons] at hf
    have hd : ¬ d = 200 := fun h => hn (.inr ⟨rfl, h⟩)
    rw [parseX, skX_stop (c := 40) (by decide) (by decide) (by decide) (by decide) (by decide)]
    dsimp only
    rw [if_neg (by decide), if_neg (fun h => hn (h.elim .inl fun h => absurd h.2 hd)), if_pos (by decide)]
    rw [List.append_assoc, putXs_tl, show [41] ++ x = 41 :: x from rfl]
    rw [row l hlm hwd hln f (n + 1) (by
      have e : (tlX l).length ≤ (putXs l).length + 1 := by
        cases l with
        | nil => simp [tlX]
        | cons s r => rw [tlX, putXs]; simp
      simp only [List.length_append, List.length_cons, List.length_nil] at hf ⊢
      omega) hnu]
    rfl
theorem parse_all : ∀ (l : List ST), (∀ s ∈ l, nfX s) → (∀ s ∈ l, wdX s = true) → ∀ (f : Nat) (n : Int), (allX l).length < f → (nuXs l n 0).2 = true → parseX f 0 (allX l) n = .ok l [] (nuXs l n 0).1
  | [], _, _, f, n, hf, hn => by
    cases f with
    | zero => omega
    | succ f =>
      rw [show allX [] = [] from rfl, parseX, show skX false [] = [] by rw [skX]]
      dsimp only
      rw [if_neg (by omega), nuXs]
  | s :: r, h1, h2, f, n, hf, hn => by
    have ea : allX (s :: r) = putX s ++ 10 :: allX r := by unfold allX; simp
    rw [ea] at hf ⊢
    rw [nuXs] at hn ⊢
    simp only [List.length_append, List.length_cons] at hf
    split at hn
    · cases hn
    · rename_i h3
      rw [if_neg h3]
      split at hn
      · rename_i h4
        rw [if_pos h4]
        cases f with
        | zero => omega
        | succ f =>
          have hp := List.length_pos_iff.2 (putX_ne s (h2 s (by simp)))
          rw [parse_put _ s (Nat.lt_succ_self _) (h1 s (by simp)) (h2 s (by simp)) f 0 n (10 :: allX r) (by show plainB 10 = false; decide) (by simp only [List.length_append, List.length_cons]; omega) h3 h4, parseX_10]
          rw [parse_all r (fun g hg => h1 g (by simp [hg])) (fun g hg => h2 g (by simp [hg])) f _ (by omega) hn]
          rfl
      · cases hn
end Go.Proofs.YtbbpecfapohlaaaGreatDoor
