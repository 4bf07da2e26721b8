/-
  What the laws of layer 12 are handed, read as trees.
-/
import Derived.Test.YtephgondpignbaaOpen
import Derived.Test.YtephgondpignbaaSexpL
namespace Go.Proofs.Ytephgondpignbaa
open Go.RowKit
theorem Rp.slice_imp {α : Type} {R R' : Rp α} (hk : R.k = R'.k) (h : ∀ {S w cs a}, R.rel S w cs a → R'.rel S w cs a) {S : Nat → Prop} {w : World} {cs : List Value} {l : List α} (hl : (Rp.slice R).rel S w cs l) : (Rp.slice R').rel S w cs l := by
  obtain ⟨a, c, e, h1, h2, h3⟩ := hl
  refine ⟨a, c, e, h1, h2, fun hp => ?_⟩
  obtain ⟨b, o, ha, hb, hel⟩ := h3 hp
  refine ⟨b, o, ha, hb, fun i hi => ?_⟩
  obtain ⟨es, hr, hc⟩ := hel i hi
  exact ⟨es, h hr, by rw [← hk]; exact hc⟩
theorem RpT_succ (d : Nat) : ∀ {S w cs a}, (RpT d).rel S w cs a → (RpT (d + 1)).rel S w cs a := by
  induction d with
  | zero => intro S w cs a h; exact h.elim
  | succ d ih =>
    intro S w cs a h
    obtain ⟨c, e, rfl, hc, c2, e2, rfl, hc2, h2⟩ := h
    exact ⟨c, _, rfl, hc, c2, e2, rfl, hc2, Rp.slice_imp (by rw [RpT_k, RpT_k]) ih h2⟩
theorem RpT_le {d d' : Nat} (h : d ≤ d') {S : Nat → Prop} {w : World} {cs : List Value} {a : T} (hr : (RpT d).rel S w cs a) : (RpT d').rel S w cs a := by
  induction d' with
  | zero => obtain rfl : d = 0 := by omega
            exact hr
  | succ d' ih =>
    by_cases hd : d = d' + 1
    · subst hd; exact hr
    · exact RpT_succ d' (ih (by omega))
mutual
def T.sz : T → Nat
  | .mk _ w l => 1 + (w.size + 1) + (szL l + 1) + 1
def szL : List T → Nat
  | [] => 0
  | t :: r => t.sz + szL r
end
theorem szL_sum (l : List T) : (l.map T.sz).sum = szL l := by
  induction l with
  | nil => rfl
  | cons t r ih => simp [szL, ih]
mutual
theorem T.text_le : (t : T) → t.text.length + 1 ≤ t.sz
  | .mk leaf w l => by
    cases leaf with
    | true => simp only [T.text, if_true, T.sz]; have : w.data.toList.length = w.size := by simp
              omega
    | false =>
      have := bodyL_sz l
      simp only [T.text, Bool.false_eq_true, if_false, T.sz, List.length_cons, List.length_append, List.length_nil]
      omega
theorem bodyL_sz : (l : List T) → (bodyL l).length ≤ szL l
  | [] => by simp [bodyL]
  | t :: r => by
    have h1 := T.text_le t
    have h2 := moreL_sz r
    simp only [bodyL, szL, List.length_append]
    omega
theorem moreL_sz : (l : List T) → (moreL l).length ≤ szL l
  | [] => by simp [moreL]
  | t :: r => by
    have h1 := T.text_le t
    have h2 := moreL_sz r
    simp only [moreL, szL, List.length_cons, List.length_append]
    omega
end
theorem linesL_sz : (l : List T) → (linesL l).length ≤ szL l
  | [] => by simp [linesL]
  | t :: r => by
    have h1 := T.text_le t
    have h2 := linesL_sz r
    simp only [linesL, szL, List.length_cons, List.length_append]
    omega
section
variable {H : Type} {enc : TypeId × Value → H} {W : World}
theorem opensT (m : Nat) : Opens enc Try.prog W m 40 (RpT m) T.sz := by
  induction m using Nat.strongRecOn with | _ m ih => ?_
  cases m with
  | zero => intro n hn; omega
  | succ m =>
    obtain ⟨f0, f1, f2, hs, t0, o0, t1, o1, t2, o2⟩ := fields3 (P := Try.prog) (t := 40) (t0 := 4) (t1 := 9) (t2 := 22) (o0 := 0) (o1 := 1) (o2 := 2) (by kernel_rfl)
    have hl : Opens enc Try.prog W m 22 (Rp.slice (RpT m)) (fun l => szL l + 1) := by
      cases m with
      | zero => intro n hn; omega
      | succ m =>
        have h1 := Opens.slice (t := 22) (by kernel_rfl) (by rw [RpT_k]; kernel_rfl) (by rw [RpT_k]; omega) (ih m (by omega))
        intro n hn cs d ps hx
        obtain ⟨l, h2, h3⟩ := h1 n hn cs d ps hx
        refine ⟨l, Rp.slice_imp (by rw [RpT_k, RpT_k]) (RpT_succ m) h2, ?_⟩
        show szL l + 1 ≤ _
        rw [← szL_sum]; exact h3
    have h3 := Opens.struct3 (enc := enc) (W := W) (m := m) (A := Rp.bool) (B := Rp.str) (C := Rp.slice (RpT m)) hs (by kernel_rfl) (by rw [t0]; kernel_rfl) (by rw [t1]; kernel_rfl) (by rw [t2]; kernel_rfl) o0 o1 o2
      (by rw [t0]; exact Opens.bool (by kernel_rfl) m) (by rw [t1]; exact Opens.str (by kernel_rfl) m) (by rw [t2]; exact hl)
    have h4 := h3.map (fun t : T => (t.leaf, t.word, t.list)) (fun x => .mk x.1 x.2.1 x.2.2) (fun _ => rfl)
    intro n hn cs d ps hx
    obtain ⟨a, h5, h6⟩ := h4 n hn cs d ps hx
    refine ⟨a, h5, ?_⟩
    cases a with
    | mk l w ts => exact h6
theorem opensTs (m : Nat) : Opens enc Try.prog W (m + 1) 22 (Rp.slice (RpT m)) (fun l => szL l + 1) := by
  have h1 := Opens.slice (t := 22) (by kernel_rfl) (by rw [RpT_k]; kernel_rfl) (by rw [RpT_k]; omega) (opensT (enc := enc) (W := W) m)
  intro n hn cs d ps hx
  obtain ⟨l, h2, h3⟩ := h1 n hn cs d ps hx
  exact ⟨l, h2, by show szL l + 1 ≤ _; rw [← szL_sum]; exact h3⟩
end
end Go.Proofs.Ytephgondpignbaa
