/-
 The document's reader: lines, words, digits (attestref15).
-/
import Derived.Test.YthdkkpocihkgbaaGreatDoorNtQ
namespace Go.Proofs.YthdkkpocihkgbaaGreatDoor
open Go.RowKit
section
variable {P : Program} {C : Cx} {o : Oper} {σ : AS}
/-- x[i:j] of a text. -/
theorem Loc.strCut {T : TypeId} {x y z : Operand} {l : List UInt8} {n m : Int} {kd kd' : IntKind} (i j : Nat) (ho : o.op = .slice T x (some y) (some z) none) (hx : ev σ x = .d (.v (.string (tx l)))) (hy : ev σ y = .d (.v (.int kd n))) (hz : ev σ z = .d (.v (.int kd' m))) (hn : n = (i : Int)) (hm : m = (j : Int)) (hij : i ≤ j) (hj : j ≤ l.length) (hT : P.underlying T = some .string) : Loc P C o σ (.d (.v (.string (tx ((l.drop i).take (j - i)))))) :=
 Loc.quiet fun σ' hl β c w hi' => by
  subst hn hm
  have h1 := hl.ra hi' (x := x) (by rw [ho]; simp [Op.operands])
  have h2 := hl.ra hi' (x := y) (by rw [ho]; simp [Op.operands])
  have h3 := hl.ra hi' (x := z) (by rw [ho]; simp [Op.operands])
  rw [hx] at h1
  rw [hy] at h2
  rw [hz] at h3
  refine ⟨_, ?_, .mk rfl⟩
  unfold execOp; rw [ho]
  have hr : (Instr.slice T (.string (tx l)) (some (.int kd (i : Int))) (some (.int kd' (j : Int))) none).run P w = .ok (.string ((tx l).extract i j)) w := by
   have hs : (j : Int) ≤ (tx l).size := by rw [tx_size]; omega
   simp [Instr.slice, run_underlying hT, Instr.sliceBounds, run_sliceBound, hs, hij]
  rw [tx_cut] at hr
  simp [RA.val h1, RA.val h2, RA.val h3, run_sliceAt_string _ _ _ _ _ _ hT, hr]
end
attribute [local irreducible] AC Do St
theorem u8_wr {n : Int} (h : 0 ≤ n) (h2 : n < 256) : IntKind.u8.wrap n = n := by
 simp [IntKind.wrap, IntKind.bits, IntKind.signed]
 omega
def dgN (l : List UInt8) : Int := if l = [] then -1 else match cntN l with
 | some n => n
 | none => -1
set_option maxRecDepth 100000 in
set_option maxHeartbeats 4000000 in
theorem digits15F (l : List UInt8) (hl : l.length ≤ 4000000000) : Fn Tryz.prog 70 [.d (.v (.string (tx l)))] [.d (.v (.int .i64 (dgN l)))] := by
 refine Fn.of Tryz.func70 rfl (by kernel_rfl) Tryz.ntmps70 Tryz.results70 rfl fun w0 S0 => ?_
 by_cases h0 : l.length < 1
 ·have e : dgN l = -1 := by unfold dgN; rw [if_pos (List.length_eq_zero_iff.1 (by omega))]
  rw [e]
  refine wk ?_
  ((try (first | intro K ms hms hK | intro K hK)); (first | apply Chain.go | apply Chain.goD); exact rfl; exact rfl; exact Loc.strLen rfl rfl (by kernel_rfl))
  rw [tx_size]
  refine wk ?_
  exact ⟨.d rfl (.inl rfl), trivial⟩
 have hne : l ≠ [] := fun e => h0 (by rw [e]; decide)
 by_cases h6 : 6 < l.length
 ·have e : dgN l = -1 := by unfold dgN cntN; rw [if_neg hne, if_neg (by omega)]
  rw [e]
  refine wk ?_
  ((try (first | intro K ms hms hK | intro K hK)); (first | apply Chain.go | apply Chain.goD); exact rfl; exact rfl; exact Loc.strLen rfl rfl (by kernel_rfl))
  rw [tx_size]
  refine wk ?_
  ((try (first | intro K ms hms hK | intro K hK)); (first | apply Chain.go | apply Chain.goD); exact rfl; exact rfl; exact Loc.strLen rfl rfl (by kernel_rfl))
  rw [tx_size]
  refine wk ?_
  exact ⟨.d rfl (.inl rfl), trivial⟩
 have eN : (¬ ∀ c ∈ l, DigC c) → dgN l = -1 := fun h => by unfold dgN cntN; rw [if_neg hne, if_neg (fun h2 => h h2.2)]
 have eY : (∀ c ∈ l, DigC c) → dgN l = (valF 0 l : Int) := fun h => by unfold dgN cntN; rw [if_neg hne, if_pos ⟨by omega, h⟩]
 generalize dgN l = R at eN eY ⊢
 refine wk ?_
 ((try (first | intro K ms hms hK | intro K hK)); (first | apply Chain.go | apply Chain.goD); exact rfl; exact rfl; exact Loc.strLen rfl rfl (by kernel_rfl))
 rw [tx_size]
 refine wk ?_
 ((try (first | intro K ms hms hK | intro K hK)); (first | apply Chain.go | apply Chain.goD); exact rfl; exact rfl; exact Loc.strLen rfl rfl (by kernel_rfl))
 rw [tx_size]
 refine wk ?_
 refine AC.loop (X := Nat) (fun i => ⟨[(0, .d (.v (.string (tx l)))), (3, .d (.v (.int .i64 (valF 0 (l.take i) : Int)))), (4, .d (.v (.int .i64 (i : Int))))], []⟩) (fun i => i ≤ l.length ∧ ∀ c ∈ l.take i, DigC c) (fun i => l.length - i) 0 ⟨Nat.zero_le _, by simp⟩ ⟨rfl, rfl, rfl, trivial⟩ trivial ?_
 intro i ⟨hi, hd⟩
 have hv := valF_lt (l.take i) hd 0
 have hp : 10 ^ (l.take i).length ≤ 10 ^ 6 := Nat.pow_le_pow_right (by decide) (by simp; omega)
 dsimp only
 refine wk ?_
 ((try (first | intro K ms hms hK | intro K hK)); (first | apply Chain.go | apply Chain.goD); exact rfl; exact rfl; exact Loc.strLen rfl rfl (by kernel_rfl))
 rw [tx_size]
 refine s1 (fun h3 => ?_) (fun h3 => ?_)
 ·have hi' : i < l.length := by omega
  have hget : l[i]? = some l[i] := List.getElem?_eq_getElem hi'
  have hval := valF_take hget 0
  have hds : DigC l[i] → ∀ x ∈ l.take (i + 1), DigC x := fun h x hx => by
   rw [List.take_succ_eq_append_getElem hi'] at hx
   rcases List.mem_append.1 hx with h2 | h2
   ·exact hd x h2
   ·rw [List.mem_singleton.1 h2]; exact h
  have hdn : ¬ DigC l[i] → ¬ ∀ c ∈ l, DigC c := fun h h2 => h (h2 _ (List.getElem_mem hi'))
  generalize l[i] = c at hget hval hds hdn
  have hc := UInt8.toNat_lt c
  refine wk ?_
  ((try (first | intro K ms hms hK | intro K hK)); (first | apply Chain.go | apply Chain.goD); exact rfl; exact rfl; exact Loc.strAt (c := c) i rfl rfl rfl rfl hget (by kernel_rfl))
  by_cases hlo : c.toNat < 48
  ·have eR := eN (hdn (by unfold DigC; omega))
   refine wk ?_
   rw [eR]
   exact ⟨.d rfl (.inl rfl), trivial⟩
  refine wk ?_
  ((try (first | intro K ms hms hK | intro K hK)); (first | apply Chain.go | apply Chain.goD); exact rfl; exact rfl; exact Loc.strAt (c := c) i rfl rfl rfl rfl hget (by kernel_rfl))
  by_cases hhi : 57 < c.toNat
  ·have eR := eN (hdn (by unfold DigC; omega))
   refine wk ?_
   rw [eR]
   exact ⟨.d rfl (.inl rfl), trivial⟩
  have hdc : DigC c := by unfold DigC; omega
  refine wk ?_
  ((try (first | intro K ms hms hK | intro K hK)); (first | apply Chain.go | apply Chain.goD); exact rfl; exact rfl; exact Loc.mul rfl rfl rfl (IntWalk.i64_in _ (by omega)))
  refine wk ?_
  ((try (first | intro K ms hms hK | intro K hK)); (first | apply Chain.go | apply Chain.goD); exact rfl; exact rfl; exact Loc.strAt (c := c) i rfl rfl rfl rfl hget (by kernel_rfl))
  ((try (first | intro K ms hms hK | intro K hK)); (first | apply Chain.go | apply Chain.goD); exact rfl; exact rfl; exact Loc.sub rfl rfl rfl (u8_wr (by omega) (by omega)))
  ((try (first | intro K ms hms hK | intro K hK)); (first | apply Chain.go | apply Chain.goD); exact rfl; exact rfl; exact Loc.conv rfl rfl (IntWalk.i64_in _ (by omega)))
  refine wk ?_
  exact ⟨i + 1, ⟨hi', hds hdc⟩, by omega, ⟨rfl, by dsimp only; rw [hval]; exact ivw (by omega), rfl, trivial⟩, trivial⟩
 ·rw [List.take_of_length_le (by omega)] at hd ⊢
  have eR := eY hd
  refine wk ?_
  rw [eR]
  exact ⟨.d rfl (.inl rfl), trivial⟩
set_option maxRecDepth 100000 in
set_option maxHeartbeats 4000000 in
theorem lines15F (l : List UInt8) (hl : l.length ≤ 4000000000) : Fn Tryz.prog 68 [.d (.v (.string (tx l)))] [.d (wordsE (linesN l))] := by
 refine Fn.of Tryz.func68 rfl (by kernel_rfl) Tryz.ntmps68 Tryz.results68 rfl fun w0 S0 => ?_
 refine wk ?_
 refine AC.loop (X := Nat × Nat × List (List UInt8)) (fun x => ⟨[(0, .d (.v (.string (tx l)))), (3, .r 6 x.2.2.length), (4, .d (.v (.int .i64 (x.2.1 : Int)))), (5, .d (.v (.int .i64 (x.1 : Int))))], [(6, .row x.2.2.length 9 1 (x.2.2.map fun y => [.v (.string (tx y))]))]⟩) (fun x => x.1 ≤ l.length ∧ x.2.1 ≤ x.1 ∧ x.2.2.length ≤ x.1 ∧ linesN l = x.2.2 ++ linesGo ((l.drop x.2.1).take (x.1 - x.2.1)) (l.drop x.1)) (fun x => l.length - x.1) (0, 0, []) ⟨Nat.zero_le _, Nat.le_refl _, Nat.le_refl _, rfl⟩ ⟨rfl, rfl, rfl, rfl, trivial⟩ ⟨rfl, trivial⟩ ?_
 intro ⟨i, k, out⟩ ⟨hi, hk, ho, hg⟩
 dsimp only at hi hk ho hg ⊢
 have hml : (out.map fun y => [D.v (.string (tx y))]).length = out.length := List.length_map ..
 refine wk ?_
 ((try (first | intro K ms hms hK | intro K hK)); (first | apply Chain.go | apply Chain.goD); exact rfl; exact rfl; exact Loc.strLen rfl rfl (by kernel_rfl))
 rw [tx_size]
 refine s1 (fun h3 => ?_) (fun h3 => ?_)
 ·have hi' : i < l.length := by omega
  have hget : l[i]? = some l[i] := List.getElem?_eq_getElem hi'
  rw [List.drop_eq_getElem_cons hi', linesGo] at hg
  have htk : (l.drop k).take (i - k) ++ [l[i]] = (l.drop k).take (i + 1 - k) := by
   have hg2 : (l.drop k)[i - k]? = some l[i] := by rw [List.getElem?_drop, show k + (i - k) = i by omega]; exact hget
   rw [show i + 1 - k = (i - k) + 1 by omega, List.take_add_one, hg2]
   rfl
  generalize l[i] = c at hget hg htk
  refine wk ?_
  ((try (first | intro K ms hms hK | intro K hK)); (first | apply Chain.go | apply Chain.goD); exact rfl; exact rfl; exact Loc.strAt (c := c) i rfl rfl rfl rfl hget (by kernel_rfl))
  by_cases hc : c.toNat = 10
  ·rw [if_pos (UInt8.toNat_inj.1 hc)] at hg
   refine wk ?_
   ((try (first | intro K ms hms hK | intro K hK)); (first | apply Chain.go | apply Chain.goD); exact rfl; exact rfl; exact Loc.strCut k i rfl rfl rfl rfl rfl rfl hk hi (by kernel_rfl))
   refine wk ?_
   exact ⟨(i + 1, i + 1, out ++ [(l.drop k).take (i - k)]), ⟨hi', Nat.le_refl _, by simp; omega, by dsimp only; rw [hg, Nat.sub_self, List.append_assoc]; rfl⟩, by dsimp only; omega, ⟨rfl, iv10 (by simp), rfl, rfl, trivial⟩, ⟨by simp; rfl, trivial⟩⟩
  ·rw [if_neg (fun e => hc (by rw [e]; rfl)), htk] at hg
   refine wk ?_
   exact ⟨(i + 1, k, out), ⟨hi', by dsimp only; omega, by dsimp only; omega, hg⟩, by dsimp only; omega, ⟨rfl, rfl, rfl, rfl, trivial⟩, ⟨rfl, trivial⟩⟩
 ·have he : i = l.length := by omega
  rw [he, List.drop_length, linesGo, ← List.length_drop, List.take_length] at hg
  refine wk ?_
  ((try (first | intro K ms hms hK | intro K hK)); (first | apply Chain.go | apply Chain.goD); exact rfl; exact rfl; exact Loc.strFrom k rfl rfl rfl rfl (by omega) (by kernel_rfl))
  ((try (first | intro K ms hms hK | intro K hK)); (first | apply Chain.go | apply Chain.goD); exact rfl; exact rfl; exact Loc.litP rfl rfl rfl rfl rfl rfl rfl)
  ((try (first | intro K ms hms hK | intro K hK)); (first | apply Chain.ef | apply Chain.efD); exact rfl; exact rfl; exact Do.append1 rfl rfl rfl rfl rfl rfl (by first | omega | (simp; omega)); exact rfl; exact rfl)
  refine Chain.frzVar 31 rfl rfl ?_
  refine wk ?_
  exact ⟨.d rfl (.inl (by rw [hg]; simp [wordsE]; rfl)), trivial⟩
/-- The words of a line, byte i reached: those read, and what stands from the open one on. -/
def wsI (l : List UInt8) (i : Nat) (st : Option Nat) (out : List (List UInt8)) : Prop := wordsN l = out ++ (if i ≤ l.length then wordsGo (curOf l i st) (l.drop i) else [])
theorem wsI_bn {l : List UInt8} {i : Nat} {out : List (List UInt8)} (hi : i < l.length) (hs : spa8 l[i] = true) (h : wsI l i none out) : wsI l (i + 1) none out := by
 unfold wsI at h ⊢
 rw [if_pos (by omega), List.drop_eq_getElem_cons hi] at h
 rw [if_pos (by omega), h]
 simp only [curOf]
 rw [wordsGo, if_pos hs, if_pos rfl]
theorem cur_ne {l : List UInt8} {i a : Nat} (hi : i ≤ l.length) (ha : a < i) : ¬ (l.drop a).take (i - a) = [] := fun e => by
 have := congrArg List.length e
 simp at this
 omega
theorem wsI_bs {l : List UInt8} {i a : Nat} {out : List (List UInt8)} (hi : i < l.length) (ha : a < i) (hs : spa8 l[i] = true) (h : wsI l i (some a) out) : wsI l (i + 1) none (out ++ [(l.drop a).take (i - a)]) := by
 unfold wsI at h ⊢
 rw [if_pos (by omega), List.drop_eq_getElem_cons hi] at h
 rw [if_pos (by omega), h]
 simp only [curOf]
 rw [wordsGo, if_pos hs, if_neg (cur_ne (by omega) ha)]
 simp
theorem wsI_en {l : List UInt8} {out : List (List UInt8)} (h : wsI l l.length none out) : wsI l (l.length + 1) none out := by
 unfold wsI at h ⊢
 rw [if_pos (Nat.le_refl _), List.drop_length] at h
 rw [if_neg (by omega), h]
 simp [curOf, wordsGo]
theorem wsI_es {l : List UInt8} {a : Nat} {out : List (List UInt8)} (ha : a < l.length) (h : wsI l l.length (some a) out) : wsI l (l.length + 1) none (out ++ [(l.drop a).take (l.length - a)]) := by
 unfold wsI at h ⊢
 rw [if_pos (Nat.le_refl _), List.drop_length] at h
 rw [if_neg (by omega), h]
 simp only [curOf]
 have e : wordsGo ((l.drop a).take (l.length - a)) [] = [(l.drop a).take (l.length - a)] := by
  unfold wordsGo
  exact if_neg (cur_ne (Nat.le_refl _) ha)
 rw [e]
 simp
theorem wsI_w {l : List UInt8} {i : Nat} {st : Option Nat} {out : List (List UInt8)} (hi : i < l.length) (ha : ∀ a, st = some a → a < i) (hs : spa8 l[i] = false) (h : wsI l i st out) : wsI l (i + 1) (some (st.getD i)) out := by
 unfold wsI at h ⊢
 have e1 := curOf_add l i 1 st ha (Nat.le_refl 1)
 rw [if_pos (by omega), List.drop_eq_getElem_cons hi, wordsGo, if_neg (by rw [hs]; decide)] at h
 rw [if_pos (by omega), h, e1, List.drop_eq_getElem_cons hi]
 rfl
theorem wsI_end {l : List UInt8} {i : Nat} {st : Option Nat} {out : List (List UInt8)} (hi : l.length < i) (h : wsI l i st out) : wordsN l = out := by
 unfold wsI at h
 rw [if_neg (by omega)] at h
 simpa using h
/-- Where a word began, as the number that is kept. -/
def stI : Option Nat → Int
 | some a => (a : Int)
 | none => -1
set_option maxRecDepth 100000 in
set_option maxHeartbeats 8000000 in
theorem words15F (l : List UInt8) (hl : l.length ≤ 4000000000) : Fn Tryz.prog 69 [.d (.v (.string (tx l)))] [.d (wordsE (wordsN l))] := by
 refine Fn.of Tryz.func69 rfl (by kernel_rfl) Tryz.ntmps69 Tryz.results69 rfl fun w0 S0 => ?_
 refine wk ?_
 refine AC.loop (X := Nat × Option Nat × List (List UInt8)) (fun x => ⟨[(0, .d (.v (.string (tx l)))), (3, .r 7 x.2.2.length), (4, .d (.v (.int .i64 (stI x.2.1)))), (5, .d (.v (.int .i64 (x.1 : Int))))], [(7, .row x.2.2.length 9 1 (x.2.2.map fun y => [.v (.string (tx y))]))]⟩) (fun x => x.1 ≤ l.length + 1 ∧ (∀ a, x.2.1 = some a → a < x.1) ∧ x.2.2.length ≤ x.1 ∧ wsI l x.1 x.2.1 x.2.2) (fun x => l.length + 1 - x.1) (0, none, []) ⟨Nat.zero_le _, fun a h => (by cases h), Nat.le_refl _, by unfold wsI; rw [if_pos (Nat.zero_le _)]; rfl⟩ ⟨rfl, rfl, rfl, rfl, trivial⟩ ⟨rfl, trivial⟩ ?_
 intro ⟨i, st, out⟩ ⟨hi, hst, ho, hg⟩
 dsimp only at hi hst ho hg ⊢
 have hml : (out.map fun y => [D.v (.string (tx y))]).length = out.length := List.length_map ..
 refine wk ?_
 ((try (first | intro K ms hms hK | intro K hK)); (first | apply Chain.go | apply Chain.goD); exact rfl; exact rfl; exact Loc.strLen rfl rfl (by kernel_rfl))
 rw [tx_size]
 refine s1 (fun h3 => ?_) (fun h3 => ?_)
 ·by_cases he : i = l.length
  ·cases st with
   | none =>
    replace hg : wsI l l.length none out := he ▸ hg
    dsimp only [stI]
    refine wk ?_
    ((try (first | intro K ms hms hK | intro K hK)); (first | apply Chain.go | apply Chain.goD); exact rfl; exact rfl; exact Loc.strLen rfl rfl (by kernel_rfl))
    rw [tx_size]
    refine wk ?_
    exact ⟨(i + 1, none, out), ⟨by dsimp only; omega, fun a h => (by cases h), by dsimp only; omega, he.symm ▸ wsI_en hg⟩, by dsimp only; omega, ⟨rfl, rfl, rfl, rfl, trivial⟩, ⟨rfl, trivial⟩⟩
   | some a =>
    have ha := hst a rfl
    replace hg : wsI l l.length (some a) out := he ▸ hg
    dsimp only [stI]
    refine wk ?_
    ((try (first | intro K ms hms hK | intro K hK)); (first | apply Chain.go | apply Chain.goD); exact rfl; exact rfl; exact Loc.strLen rfl rfl (by kernel_rfl))
    rw [tx_size]
    refine wk ?_
    ((try (first | intro K ms hms hK | intro K hK)); (first | apply Chain.go | apply Chain.goD); exact rfl; exact rfl; exact Loc.strCut a i rfl rfl rfl rfl rfl rfl (by omega) (by omega) (by kernel_rfl))
    refine wk ?_
    exact ⟨(i + 1, none, out ++ [(l.drop a).take (i - a)]), ⟨by dsimp only; omega, fun a h => (by cases h), by simp; omega, he.symm ▸ wsI_es (by omega) hg⟩, by dsimp only; omega, ⟨rfl, iv10 (by simp), rfl, rfl, trivial⟩, ⟨by simp; rfl, trivial⟩⟩
  ·have hi2 : i < l.length := by omega
   have hget : l[i]? = some l[i] := List.getElem?_eq_getElem hi2
   obtain ⟨c, hc⟩ : ∃ c, l[i] = c := ⟨_, rfl⟩
   rw [hc] at hget
   have hsp : spa8 l[i] = spa8 c := by rw [hc]
   by_cases c1 : c.toNat = 32
   ·have hs : spa8 l[i] = true := by rw [hsp]; unfold spa8 spaR; simp [c1]
    cases st with
    | none =>
     dsimp only [stI]
     refine wk ?_
     ((try (first | intro K ms hms hK | intro K hK)); (first | apply Chain.go | apply Chain.goD); exact rfl; exact rfl; exact Loc.strLen rfl rfl (by kernel_rfl))
     rw [tx_size]
     refine wk ?_
     ((try (first | intro K ms hms hK | intro K hK)); (first | apply Chain.go | apply Chain.goD); exact rfl; exact rfl; exact Loc.strAt (c := c) i rfl rfl rfl rfl hget (by kernel_rfl))
     refine wk ?_
     exact ⟨(i + 1, none, out), ⟨by dsimp only; omega, fun a h => (by cases h), by dsimp only; omega, wsI_bn hi2 hs hg⟩, by dsimp only; omega, ⟨rfl, rfl, rfl, rfl, trivial⟩, ⟨rfl, trivial⟩⟩
    | some a =>
     have ha := hst a rfl
     dsimp only [stI]
     refine wk ?_
     ((try (first | intro K ms hms hK | intro K hK)); (first | apply Chain.go | apply Chain.goD); exact rfl; exact rfl; exact Loc.strLen rfl rfl (by kernel_rfl))
     rw [tx_size]
     refine wk ?_
     ((try (first | intro K ms hms hK | intro K hK)); (first | apply Chain.go | apply Chain.goD); exact rfl; exact rfl; exact Loc.strAt (c := c) i rfl rfl rfl rfl hget (by kernel_rfl))
     refine wk ?_
     ((try (first | intro K ms hms hK | intro K hK)); (first | apply Chain.go | apply Chain.goD); exact rfl; exact rfl; exact Loc.strCut a i rfl rfl rfl rfl rfl rfl (by omega) (by omega) (by kernel_rfl))
     refine wk ?_
     exact ⟨(i + 1, none, out ++ [(l.drop a).take (i - a)]), ⟨by dsimp only; omega, fun a h => (by cases h), by simp; omega, wsI_bs hi2 (by omega) hs hg⟩, by dsimp only; omega, ⟨rfl, iv10 (by simp), rfl, rfl, trivial⟩, ⟨by simp; rfl, trivial⟩⟩
   by_cases c2 : c.toNat = 9
   ·have hs : spa8 l[i] = true := by rw [hsp]; unfold spa8 spaR; simp [c2]
    cases st with
    | none =>
     dsimp only [stI]
     refine wk ?_
     ((try (first | intro K ms hms hK | intro K hK)); (first | apply Chain.go | apply Chain.goD); exact rfl; exact rfl; exact Loc.strLen rfl rfl (by kernel_rfl))
     rw [tx_size]
     refine wk ?_
     ((try (first | intro K ms hms hK | intro K hK)); (first | apply Chain.go | apply Chain.goD); exact rfl; exact rfl; exact Loc.strAt (c := c) i rfl rfl rfl rfl hget (by kernel_rfl))
     refine wk ?_
     ((try (first | intro K ms hms hK | intro K hK)); (first | apply Chain.go | apply Chain.goD); exact rfl; exact rfl; exact Loc.strAt (c := c) i rfl rfl rfl rfl hget (by kernel_rfl))
     refine wk ?_
     exact ⟨(i + 1, none, out), ⟨by dsimp only; omega, fun a h => (by cases h), by dsimp only; omega, wsI_bn hi2 hs hg⟩, by dsimp only; omega, ⟨rfl, rfl, rfl, rfl, trivial⟩, ⟨rfl, trivial⟩⟩
    | some a =>
     have ha := hst a rfl
     dsimp only [stI]
     refine wk ?_
     ((try (first | intro K ms hms hK | intro K hK)); (first | apply Chain.go | apply Chain.goD); exact rfl; exact rfl; exact Loc.strLen rfl rfl (by kernel_rfl))
     rw [tx_size]
     refine wk ?_
     ((try (first | intro K ms hms hK | intro K hK)); (first | apply Chain.go | apply Chain.goD); exact rfl; exact rfl; exact Loc.strAt (c := c) i rfl rfl rfl rfl hget (by kernel_rfl))
     refine wk ?_
     ((try (first | intro K ms hms hK | intro K hK)); (first | apply Chain.go | apply Chain.goD); exact rfl; exact rfl; exact Loc.strAt (c := c) i rfl rfl rfl rfl hget (by kernel_rfl))
     refine wk ?_
     ((try (first | intro K ms hms hK | intro K hK)); (first | apply Chain.go | apply Chain.goD); exact rfl; exact rfl; exact Loc.strCut a i rfl rfl rfl rfl rfl rfl (by omega) (by omega) (by kernel_rfl))
     refine wk ?_
     exact ⟨(i + 1, none, out ++ [(l.drop a).take (i - a)]), ⟨by dsimp only; omega, fun a h => (by cases h), by simp; omega, wsI_bs hi2 (by omega) hs hg⟩, by dsimp only; omega, ⟨rfl, iv10 (by simp), rfl, rfl, trivial⟩, ⟨by simp; rfl, trivial⟩⟩
   by_cases c3 : c.toNat = 13
   ·have hs : spa8 l[i] = true := by rw [hsp]; unfold spa8 spaR; simp [c3]
    cases st with
    | none =>
     dsimp only [stI]
     refine wk ?_
     ((try (first | intro K ms hms hK | intro K hK)); (first | apply Chain.go | apply Chain.goD); exact rfl; exact rfl; exact Loc.strLen rfl rfl (by kernel_rfl))
     rw [tx_size]
     refine wk ?_
     ((try (first | intro K ms hms hK | intro K hK)); (first | apply Chain.go | apply Chain.goD); exact rfl; exact rfl; exact Loc.strAt (c := c) i rfl rfl rfl rfl hget (by kernel_rfl))
     refine wk ?_
     ((try (first | intro K ms hms hK | intro K hK)); (first | apply Chain.go | apply Chain.goD); exact rfl; exact rfl; exact Loc.strAt (c := c) i rfl rfl rfl rfl hget (by kernel_rfl))
     refine wk ?_
     ((try (first | intro K ms hms hK | intro K hK)); (first | apply Chain.go | apply Chain.goD); exact rfl; exact rfl; exact Loc.strAt (c := c) i rfl rfl rfl rfl hget (by kernel_rfl))
     refine wk ?_
     exact ⟨(i + 1, none, out), ⟨by dsimp only; omega, fun a h => (by cases h), by dsimp only; omega, wsI_bn hi2 hs hg⟩, by dsimp only; omega, ⟨rfl, rfl, rfl, rfl, trivial⟩, ⟨rfl, trivial⟩⟩
    | some a =>
     have ha := hst a rfl
     dsimp only [stI]
     refine wk ?_
     ((try (first | intro K ms hms hK | intro K hK)); (first | apply Chain.go | apply Chain.goD); exact rfl; exact rfl; exact Loc.strLen rfl rfl (by kernel_rfl))
     rw [tx_size]
     refine wk ?_
     ((try (first | intro K ms hms hK | intro K hK)); (first | apply Chain.go | apply Chain.goD); exact rfl; exact rfl; exact Loc.strAt (c := c) i rfl rfl rfl rfl hget (by kernel_rfl))
     refine wk ?_
     ((try (first | intro K ms hms hK | intro K hK)); (first | apply Chain.go | apply Chain.goD); exact rfl; exact rfl; exact Loc.strAt (c := c) i rfl rfl rfl rfl hget (by kernel_rfl))
     refine wk ?_
     ((try (first | intro K ms hms hK | intro K hK)); (first | apply Chain.go | apply Chain.goD); exact rfl; exact rfl; exact Loc.strAt (c := c) i rfl rfl rfl rfl hget (by kernel_rfl))
     refine wk ?_
     ((try (first | intro K ms hms hK | intro K hK)); (first | apply Chain.go | apply Chain.goD); exact rfl; exact rfl; exact Loc.strCut a i rfl rfl rfl rfl rfl rfl (by omega) (by omega) (by kernel_rfl))
     refine wk ?_
     exact ⟨(i + 1, none, out ++ [(l.drop a).take (i - a)]), ⟨by dsimp only; omega, fun a h => (by cases h), by simp; omega, wsI_bs hi2 (by omega) hs hg⟩, by dsimp only; omega, ⟨rfl, iv10 (by simp), rfl, rfl, trivial⟩, ⟨by simp; rfl, trivial⟩⟩
   ·have hs : spa8 l[i] = false := by rw [hsp]; unfold spa8 spaR; simp [c1, c2, c3]
    cases st with
    | none =>
     dsimp only [stI]
     refine wk ?_
     ((try (first | intro K ms hms hK | intro K hK)); (first | apply Chain.go | apply Chain.goD); exact rfl; exact rfl; exact Loc.strLen rfl rfl (by kernel_rfl))
     rw [tx_size]
     refine wk ?_
     ((try (first | intro K ms hms hK | intro K hK)); (first | apply Chain.go | apply Chain.goD); exact rfl; exact rfl; exact Loc.strAt (c := c) i rfl rfl rfl rfl hget (by kernel_rfl))
     refine wk ?_
     ((try (first | intro K ms hms hK | intro K hK)); (first | apply Chain.go | apply Chain.goD); exact rfl; exact rfl; exact Loc.strAt (c := c) i rfl rfl rfl rfl hget (by kernel_rfl))
     refine wk ?_
     ((try (first | intro K ms hms hK | intro K hK)); (first | apply Chain.go | apply Chain.goD); exact rfl; exact rfl; exact Loc.strAt (c := c) i rfl rfl rfl rfl hget (by kernel_rfl))
     refine wk ?_
     exact ⟨(i + 1, some i, out), ⟨by dsimp only; omega, fun b h => (by cases h; dsimp only; omega), by dsimp only; omega, wsI_w hi2 (fun a h => by cases h) hs hg⟩, by dsimp only; omega, ⟨rfl, rfl, rfl, rfl, trivial⟩, ⟨rfl, trivial⟩⟩
    | some a =>
     have ha := hst a rfl
     dsimp only [stI]
     refine wk ?_
     ((try (first | intro K ms hms hK | intro K hK)); (first | apply Chain.go | apply Chain.goD); exact rfl; exact rfl; exact Loc.strLen rfl rfl (by kernel_rfl))
     rw [tx_size]
     refine wk ?_
     ((try (first | intro K ms hms hK | intro K hK)); (first | apply Chain.go | apply Chain.goD); exact rfl; exact rfl; exact Loc.strAt (c := c) i rfl rfl rfl rfl hget (by kernel_rfl))
     refine wk ?_
     ((try (first | intro K ms hms hK | intro K hK)); (first | apply Chain.go | apply Chain.goD); exact rfl; exact rfl; exact Loc.strAt (c := c) i rfl rfl rfl rfl hget (by kernel_rfl))
     refine wk ?_
     ((try (first | intro K ms hms hK | intro K hK)); (first | apply Chain.go | apply Chain.goD); exact rfl; exact rfl; exact Loc.strAt (c := c) i rfl rfl rfl rfl hget (by kernel_rfl))
     refine wk ?_
     exact ⟨(i + 1, some a, out), ⟨by dsimp only; omega, fun b h => (by cases h; dsimp only; omega), by dsimp only; omega, wsI_w hi2 (fun b h => by cases h; omega) hs hg⟩, by dsimp only; omega, ⟨rfl, rfl, rfl, rfl, trivial⟩, ⟨rfl, trivial⟩⟩
 ·have e := wsI_end (by omega) hg
  refine Chain.frzVar 3 rfl rfl ?_
  refine wk ?_
  exact ⟨.d rfl (.inl (by rw [e]; rfl)), trivial⟩
end Go.Proofs.YthdkkpocihkgbaaGreatDoor
