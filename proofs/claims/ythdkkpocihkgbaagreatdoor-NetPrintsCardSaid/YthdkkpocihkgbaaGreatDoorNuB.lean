/-
 The document's reader of numbers (attestref06, attestref04).
-/
import Derived.Test.YthdkkpocihkgbaaGreatDoorNuA
namespace Go.Proofs.YthdkkpocihkgbaaGreatDoor
open Go.RowKit
attribute [local irreducible] AC Do St
theorem index_at : ∀ {l : List UInt8} {c : UInt8} {i : Nat}, l[i]? = some c → c ∉ l.take i → Lib.index l [c] = (i : Int)
 | [], c, i, h, _ => by simp at h
 | b :: l, c, 0, h, _ => by
  have e : b = c := by simpa using h
  unfold Lib.index
  rw [if_pos (by simp [List.isPrefixOf, e])]
  rfl
 | b :: l, c, i + 1, h, hn => by
  have h1 : l[i]? = some c := by simpa using h
  have hb : ¬ c = b := fun e => hn (by simp [e])
  have h2 : c ∉ l.take i := fun e => hn (by simp [e])
  unfold Lib.index
  rw [if_neg (by simp [List.isPrefixOf]; exact hb), index_at h1 h2, if_neg (by simp)]
  omega
theorem index_no : ∀ {l : List UInt8} {c : UInt8}, c ∉ l → Lib.index l [c] = -1
 | [], c, _ => rfl
 | b :: l, c, h => by
  have hb : ¬ c = b := fun e => h (by simp [e])
  have h2 : c ∉ l := fun e => h (by simp [e])
  unfold Lib.index
  rw [if_neg (by simp [List.isPrefixOf]; exact hb), index_no h2]
  rfl
set_option maxRecDepth 100000 in
set_option maxHeartbeats 4000000 in
theorem at06F (l : List UInt8) (c : UInt8) (hl : l.length ≤ 4000000000) : Fn Tryz.prog 129 [.d (.v (.string (tx l))), .d (.v (.int .u8 (c.toNat : Int)))] [.d (.v (.int .i64 (Lib.index l [c])))] := by
 have rY : ∀ i : Nat, l[i]? = some c → c ∉ l.take i → Lib.index l [c] = (i : Int) := fun i => index_at
 have rN : c ∉ l → Lib.index l [c] = -1 := index_no
 generalize Lib.index l [c] = R at rY rN ⊢
 refine Fn.of Tryz.func129 rfl (by kernel_rfl) Tryz.ntmps129 Tryz.results129 rfl fun w0 S0 => ?_
 refine wk ?_
 refine AC.loop (X := Nat) (fun i => ⟨[(0, .d (.v (.string (tx l)))), (1, .d (.v (.int .u8 (c.toNat : Int)))), (5, .d (.v (.int .i64 (i : Int))))], []⟩) (fun i => i ≤ l.length ∧ c ∉ l.take i) (fun i => l.length - i) 0 ⟨Nat.zero_le _, by simp⟩ ⟨rfl, rfl, rfl, trivial⟩ trivial ?_
 intro i ⟨hi, hn⟩
 dsimp only
 refine wk ?_
 ((try (first | intro K ms hms hK | intro K hK)); (first | apply Chain.go | apply Chain.goD); exact rfl; exact rfl; exact Loc.strLen rfl rfl (by kernel_rfl))
 rw [tx_size]
 refine s1 (fun h3 => ?_) (fun h3 => ?_)
 ·have hi' : i < l.length := by omega
  have hget : l[i]? = some l[i] := List.getElem?_eq_getElem hi'
  have htk : l.take (i + 1) = l.take i ++ [l[i]] := List.take_succ_eq_append_getElem hi'
  generalize l[i] = x at hget htk
  have hx := UInt8.toNat_lt x
  refine wk ?_
  ((try (first | intro K ms hms hK | intro K hK)); (first | apply Chain.go | apply Chain.goD); exact rfl; exact rfl; exact Loc.strAt (c := x) i rfl rfl rfl rfl hget (by kernel_rfl))
  by_cases hxc : x.toNat = c.toNat
  ·have eR := rY i (by rw [hget, UInt8.toNat_inj.1 hxc]) hn
   refine wk ?_
   rw [eR]
   exact ⟨.d rfl (.inl rfl), trivial⟩
  ·refine wk ?_
   exact ⟨i + 1, ⟨hi', by rw [htk]; simp; exact ⟨hn, fun e => hxc (by rw [e])⟩⟩, by omega, ⟨rfl, rfl, rfl, trivial⟩, trivial⟩
 ·rw [List.take_of_length_le (by omega)] at hn
  have eR := rN hn
  refine wk ?_
  rw [eR]
  exact ⟨.d rfl (.inl rfl), trivial⟩
theorem bMul (x y : Nat) (hl : (bits x).length + (bits y).length ≤ 400000000) : Fn Tryz.prog 124 [.d (enB (bits x)), .d (enB (bits y))] [.d (enB (bits (x * y)))] :=
 ⟨⟨_, Tryz.func124, by kernel_rfl, by kernel_rfl⟩, fun S w vs hS hv => by
  obtain ⟨u, v, rfl, ha, hb⟩ := hv.two
  have q1 := oneB.ofRD (RD.mono ha hS) fun _ _ => trivial
  have q2 := oneB.ofRD (RD.mono hb hS) fun _ _ => trivial
  obtain ⟨a1, c1, e1, _⟩ := id q1
  injection e1 with e1
  subst e1
  obtain ⟨a2, c2, e2, _⟩ := id q2
  injection e2 with e2
  subst e2
  refine (mulB_any x y a1 a2 _ _ c1 c2 w q1 q2 hl).mono ?_
  rintro e w' ⟨a, c, rfl, hx, hr⟩
  exact ⟨_, rfl, hx, RD.mono (oneB.toRD (fun _ => rfl) hr) mo_res⟩⟩
theorem bAdd (x y : Nat) (hl : (bits x).length ≤ 500000000) (hm : (bits y).length ≤ 500000000) : Fn Tryz.prog 121 [.d (enB (bits x)), .d (enB (bits y))] [.d (enB (bits (x + y)))] :=
 ⟨⟨_, Tryz.func121, by kernel_rfl, by kernel_rfl⟩, fun S w vs hS hv => by
  obtain ⟨u, v, rfl, ha, hb⟩ := hv.two
  have q1 := oneB.ofRD (RD.mono ha hS) fun _ _ => trivial
  have q2 := oneB.ofRD (RD.mono hb hS) fun _ _ => trivial
  obtain ⟨a1, c1, e1, _⟩ := id q1
  injection e1 with e1
  subst e1
  obtain ⟨a2, c2, e2, _⟩ := id q2
  injection e2 with e2
  subst e2
  refine (addB_any x y a1 a2 _ _ c1 c2 w q1 q2 hl hm).mono ?_
  rintro e w' ⟨a, c, rfl, hx, hr⟩
  exact ⟨_, rfl, hx, RD.mono (oneB.toRD (fun _ => rfl) hr) mo_res⟩⟩
theorem bits_ten {n k : Nat} (h : n < 10 ^ k) : (bits n).length ≤ 4 * k := by
 refine bits_len_le (Nat.lt_of_lt_of_le h ?_)
 rw [Nat.pow_mul]
 exact Nat.pow_le_pow_left (by decide) _
def resB : Option Nat → List DV
 | some n => [.d (enB (bits n)), .d (.v (.bool true))]
 | none => [.d (.l []), .d (.v (.bool false))]
theorem enB0 : enB (bits 0) = .l [] := by rw [bits_zero']; rfl
set_option maxRecDepth 100000 in
set_option maxHeartbeats 4000000 in
theorem parse04F (l : List UInt8) (hl : l.length ≤ 1000000) : Fn Tryz.prog 130 [.d (.v (.string (tx l)))] (resB (readN l)) := by
 refine Fn.of Tryz.func130 rfl (by kernel_rfl) Tryz.ntmps130 Tryz.results130 rfl fun w0 S0 => ?_
 by_cases h0 : l = []
 ·subst h0
  have e0 : ([] : List UInt8).length = 0 := rfl
  rw [show readN [] = none by decide]
  refine wk ?_
  ((try (first | intro K ms hms hK | intro K hK)); (first | apply Chain.go | apply Chain.goD); exact rfl; exact rfl; exact Loc.strLen rfl rfl (by kernel_rfl))
  rw [tx_size]
  refine wk ?_
  exact ⟨.d rfl (.inr rfl), .d rfl (.inl rfl), trivial⟩
 have hl0 : l.length ≠ 0 := fun e => h0 (List.length_eq_zero_iff.1 e)
 have eN : (¬ ∀ c ∈ l, DigC c) → readN l = none := fun h => by unfold readN; exact if_neg (fun h2 => h h2.2)
 have eY : (∀ c ∈ l, DigC c) → readN l = some (valF 0 l) := fun h => by unfold readN; exact if_pos ⟨h0, h⟩
 generalize readN l = R at eN eY ⊢
 refine wk ?_
 ((try (first | intro K ms hms hK | intro K hK)); (first | apply Chain.go | apply Chain.goD); exact rfl; exact rfl; exact Loc.strLen rfl rfl (by kernel_rfl))
 rw [tx_size]
 refine wk ?_
 refine AC.frzVar 4 rfl rfl ?_
 refine AC.loop (X := Nat) (fun i => ⟨[(0, .d (.v (.string (tx l)))), (4, .d (enB (bits (valF 0 (l.take i))))), (5, .d (.v (.int .i64 (i : Int))))], []⟩) (fun i => i ≤ l.length ∧ ∀ c ∈ l.take i, DigC c) (fun i => l.length - i) 0 ⟨Nat.zero_le _, by simp⟩ ⟨rfl, by dsimp only; rw [show valF 0 (l.take 0) = 0 from rfl, enB0]; rfl, rfl, trivial⟩ trivial ?_
 intro i ⟨hi, hd⟩
 have hv := valF_lt (l.take i) hd 0
 have htl : (l.take i).length = i := by simp; omega
 rw [htl, Nat.zero_add, Nat.one_mul] at hv
 dsimp only
 refine wk ?_
 ((try (first | intro K ms hms hK | intro K hK)); (first | apply Chain.go | apply Chain.goD); exact rfl; exact rfl; exact Loc.strLen rfl rfl (by kernel_rfl))
 rw [tx_size]
 refine s1 (fun h3 => ?_) (fun h3 => ?_)
 ·have hi' : i < l.length := by omega
  have hget : l[i]? = some l[i] := List.getElem?_eq_getElem hi'
  have hval := valF_take hget 0
  have hds : DigC l[i] → ∀ x ∈ l.take (i + 1), DigC x := fun h x hx => by
   rw [List.take_succ_eq_append_getElem hi'] at hx
   rcases List.mem_append.1 hx with h2 | h2
   ·exact hd x h2
   ·rw [List.mem_singleton.1 h2]; exact h
  have hdn : ¬ DigC l[i] → ¬ ∀ c ∈ l, DigC c := fun h h2 => h (h2 _ (List.getElem_mem hi'))
  generalize l[i] = c at hget hval hds hdn
  have hc := UInt8.toNat_lt c
  refine wk ?_
  ((try (first | intro K ms hms hK | intro K hK)); (first | apply Chain.go | apply Chain.goD); exact rfl; exact rfl; exact Loc.strAt (c := c) i rfl rfl rfl rfl hget (by kernel_rfl))
  by_cases hlo : c.toNat < 48
  ·have eR := eN (hdn (by unfold DigC; omega))
   refine wk ?_
   rw [eR]
   exact ⟨.d rfl (.inr rfl), .d rfl (.inl rfl), trivial⟩
  refine wk ?_
  ((try (first | intro K ms hms hK | intro K hK)); (first | apply Chain.go | apply Chain.goD); exact rfl; exact rfl; exact Loc.strAt (c := c) i rfl rfl rfl rfl hget (by kernel_rfl))
  by_cases hhi : 57 < c.toNat
  ·have eR := eN (hdn (by unfold DigC; omega))
   refine wk ?_
   rw [eR]
   exact ⟨.d rfl (.inr rfl), .d rfl (.inl rfl), trivial⟩
  have hdc : DigC c := by unfold DigC; omega
  have b1 := bits_ten (n := valF 0 (l.take i)) (k := i) (by omega)
  have b2 : (bits 10).length ≤ 100 := bits_len_le (by decide)
  have hm10 : valF 0 (l.take i) * 10 < 10 ^ (i + 1) := by rw [Nat.pow_succ]; omega
  have b3 := bits_ten hm10
  have b4 : (bits (c.toNat - 48)).length ≤ 100 := bits_len_le (Nat.lt_of_lt_of_le (show c.toNat - 48 < 10 by omega) (by decide))
  have hcv : ((c.toNat : Int) - 48) = ((c.toNat - 48 : Nat) : Int) := by omega
  refine wk ?_
  refine c1 (qWord 10 (by decide)) ?_
  refine wk ?_
  refine c1 (bMul (valF 0 (l.take i)) 10 (by omega)) ?_
  refine wk ?_
  ((try (first | intro K ms hms hK | intro K hK)); (first | apply Chain.go | apply Chain.goD); exact rfl; exact rfl; exact Loc.strAt (c := c) i rfl rfl rfl rfl hget (by kernel_rfl))
  ((try (first | intro K ms hms hK | intro K hK)); (first | apply Chain.go | apply Chain.goD); exact rfl; exact rfl; exact Loc.sub rfl rfl rfl (u8_wr (by omega) (by omega)))
  ((try (first | intro K ms hms hK | intro K hK)); (first | apply Chain.go | apply Chain.goD); exact rfl; exact rfl; exact Loc.conv rfl rfl (IntWalk.u64_in _ (by omega)))
  rw [hcv]
  refine c1 (qWord (c.toNat - 48) (by omega)) ?_
  refine wk ?_
  refine c1 (bAdd (valF 0 (l.take i) * 10) (c.toNat - 48) (by omega) (by omega)) ?_
  refine wk ?_
  exact ⟨i + 1, ⟨hi', hds hdc⟩, by omega, ⟨rfl, by dsimp only; rw [hval]; rfl, rfl, trivial⟩, trivial⟩
 ·rw [List.take_of_length_le (by omega)] at hd ⊢
  have eR := eY hd
  refine wk ?_
  rw [eR]
  exact ⟨.d rfl (.inl rfl), .d rfl (.inl rfl), trivial⟩
set_option maxRecDepth 100000 in
set_option maxHeartbeats 4000000 in
theorem tens04F (n : Nat) (hn : n ≤ 1000000) : Fn Tryz.prog 131 [.d (.v (.int .i64 (n : Int)))] [.d (enB (bits (10 ^ n)))] := by
 refine Fn.of Tryz.func131 rfl (by kernel_rfl) Tryz.ntmps131 Tryz.results131 rfl fun w0 S0 => ?_
 refine wk ?_
 refine c1 (qWord 1 (by decide)) ?_
 refine wk ?_
 refine AC.loop (X := Nat) (fun i => ⟨[(0, .d (.v (.int .i64 (n : Int)))), (3, .d (enB (bits (10 ^ i)))), (4, .d (.v (.int .i64 (i : Int))))], []⟩) (fun i => i ≤ n) (fun i => n - i) 0 (Nat.zero_le _) ⟨rfl, rfl, rfl, trivial⟩ trivial ?_
 intro i hi
 dsimp only
 refine wk ?_
 refine s1 (fun h3 => ?_) (fun h3 => ?_)
 ·have b1 := bits_ten (n := 10 ^ i) (k := i + 1) (Nat.pow_lt_pow_right (by decide) (by omega))
  have b2 : (bits 10).length ≤ 100 := bits_len_le (by decide)
  refine wk ?_
  refine c1 (qWord 10 (by decide)) ?_
  refine wk ?_
  refine c1 (bMul (10 ^ i) 10 (by omega)) ?_
  refine wk ?_
  exact ⟨i + 1, by omega, by omega, ⟨rfl, rfl, rfl, trivial⟩, trivial⟩
 ·have e : i = n := by omega
  subst e
  refine wk ?_
  exact ⟨.d rfl (.inl rfl), trivial⟩
section
variable {P : Program} {C : Cx} {o : Oper} {σ : AS}
/-- x[:j] of a text. -/
theorem Loc.strTo {T : TypeId} {x z : Operand} {l : List UInt8} {m : Int} {kd' : IntKind} (j : Nat) (ho : o.op = .slice T x none (some z) none) (hx : ev σ x = .d (.v (.string (tx l)))) (hz : ev σ z = .d (.v (.int kd' m))) (hm : m = (j : Int)) (hj : j ≤ l.length) (hT : P.underlying T = some .string) : Loc P C o σ (.d (.v (.string (tx (l.take j))))) :=
 Loc.two (by rw [ho]; simp [Op.operands]) hx (by rw [ho]; simp [Op.operands]) hz fun S w β O a h1 h3 => by
  subst hm
  refine ⟨_, ?_, .mk rfl⟩
  unfold execOp; rw [ho]
  have hr : (Instr.slice T (.string (tx l)) none (some (.int kd' (j : Int))) none).run P w = .ok (.string ((tx l).extract 0 j)) w := by
   have hs : (j : Int) ≤ (tx l).size := by rw [tx_size]; omega
   simp [Instr.slice, run_underlying hT, Instr.sliceBounds, run_sliceBound, hs]
  rw [tx_cut, List.drop_zero, Nat.sub_zero] at hr
  simp [RA.val h1, RA.val h3, run_sliceAt_string _ _ _ _ _ _ hT, hr]
theorem Loc.eqlB {T T' : TypeId} {x y : Operand} {k : IntKind} {a b : Int} (r : Bool) (ho : o.op = .binOp .eql T x y T') (hx : ev σ x = .d (.v (.int k a))) (hy : ev σ y = .d (.v (.int k b))) (h : r = decide (a = b)) : Loc P C o σ (.d (.v (.bool r))) := by
 subst h
 by_cases h : a = b
 ·rw [decide_eq_true h]
  exact Loc.eqlT ho hx hy h
 ·rw [decide_eq_false h]
  exact Loc.eqlF ho hx hy h
end
theorem idx_cases : ∀ (l : List UInt8) (c : UInt8), Lib.index l [c] = -1 ∨ ∃ i : Nat, Lib.index l [c] = (i : Int) ∧ i < l.length
 | [], c => .inl rfl
 | b :: l, c => by
  by_cases hp : ([c] : List UInt8).isPrefixOf (b :: l) = true
  ·refine .inr ⟨0, ?_, by simp⟩
   unfold Lib.index
   rw [if_pos hp]
   rfl
  rcases idx_cases l c with h | ⟨i, h, hi⟩
  ·refine .inl ?_
   unfold Lib.index
   rw [if_neg hp, h]
   rfl
  ·refine .inr ⟨i + 1, ?_, by simp; omega⟩
   unfold Lib.index
   rw [if_neg hp, h, if_neg (by simp)]
   omega
theorem cut_yes {l : List UInt8} {c : UInt8} {i : Nat} (h : Lib.index l [c] = (i : Int)) : Lib.cut l [c] = (l.take i, l.drop (i + 1), true) := by
 unfold Lib.cut
 rw [h, if_pos (by omega)]
 simp
theorem cut_no {l : List UInt8} {c : UInt8} (h : Lib.index l [c] = -1) : Lib.cut l [c] = (l, [], false) := by
 unfold Lib.cut
 rw [h, if_neg (by omega)]
theorem pM_bar {neg : Bool} {m : List UInt8} {i : Nat} (h : Lib.index m [47] = (i : Int)) : parseM neg m = match readN (m.drop (i + 1)) with
  | none => none
  | some d => ratN neg (m.take i) d := by
 unfold parseM
 rw [cut_yes h]
 exact if_pos rfl
theorem pM_plain {neg : Bool} {m : List UInt8} (h : Lib.index m [47] = -1) (h2 : Lib.index m [46] = -1) : parseM neg m = ratN neg m 1 := by
 unfold parseM
 rw [cut_no h, cut_no h2]
 exact (if_neg Bool.false_ne_true).trans (if_neg Bool.false_ne_true)
theorem valF_add (a : Nat) (l : List UInt8) : valF a l = a * 10 ^ l.length + valF 0 l := by
 rw [valF_dval l a, valF_dval l 0, Nat.zero_mul, Nat.zero_add]
theorem pM_point {neg : Bool} {m : List UInt8} {i : Nat} (h : Lib.index m [47] = -1) (h2 : Lib.index m [46] = (i : Int)) : parseM neg m = match readN (m.take i), readN (m.drop (i + 1)) with
  | some x, some y => some (mkRat (sgn neg (x * 10 ^ (m.drop (i + 1)).length + y)) (10 ^ (m.drop (i + 1)).length))
  | _, _ => none := by
 unfold parseM
 rw [cut_no h, cut_yes h2]
 refine (if_neg Bool.false_ne_true).trans ((if_pos rfl).trans ?_)
 dsimp only
 generalize m.take i = a
 generalize m.drop (i + 1) = b
 by_cases ha : a = []
 ·subst ha
  rw [if_pos (.inl rfl), show readN [] = none by decide]
 by_cases hb : b = []
 ·subst hb
  rw [if_pos (.inr rfl), show readN [] = none by decide]
  cases readN a <;> rfl
 rw [if_neg (by simp [ha, hb])]
 unfold ratN
 by_cases da : ∀ c ∈ a, DigC c
 ·by_cases db : ∀ c ∈ b, DigC c
  ·have e1 : readN a = some (valF 0 a) := if_pos ⟨ha, da⟩
   have e2 : readN b = some (valF 0 b) := if_pos ⟨hb, db⟩
   have e3 : readN (a ++ b) = some (valF 0 (a ++ b)) := if_pos ⟨by simp [ha], fun c hc => (List.mem_append.1 hc).elim (da c) (db c)⟩
   have e4 : valF 0 (a ++ b) = valF 0 a * 10 ^ b.length + valF 0 b := by rw [valF_app, valF_add]
   rw [e1, e2, e3, e4]
   exact if_neg (Nat.ne_of_gt (Nat.pow_pos (by decide)))
  ·have e2 : readN b = none := if_neg fun h => db h.2
   have e3 : readN (a ++ b) = none := if_neg fun h => db fun c hc => h.2 c (List.mem_append.2 (.inr hc))
   rw [e2, e3]
   cases readN a <;> rfl
 ·have e1 : readN a = none := if_neg fun h => da h.2
  have e3 : readN (a ++ b) = none := if_neg fun h => da fun c hc => h.2 c (List.mem_append.2 (.inl hc))
  rw [e1, e3]
theorem readN_lt {l : List UInt8} {n : Nat} (h : readN l = some n) : n < 10 ^ l.length := by
 unfold readN at h
 split at h
 ·rename_i h2
  have := valF_lt l h2.2 0
  cases h
  omega
 ·cases h
def resQ : Option Rat → List DV
 | some q => [.g (enQ q), .d (.v (.bool true))]
 | none => [.g (enQ 0), .d (.v (.bool false))]
theorem parseR_cons (c : UInt8) (t : List UInt8) : parseR (c :: t) = if c = 45 then parseM true t else parseM false (c :: t) := by
 unfold parseR Lib.trimPrefix Lib.hasPrefix
 by_cases h : c = 45
 ·rw [if_pos h, h]
  simp [List.isPrefixOf]
 ·rw [if_neg h, if_neg (by simp [List.isPrefixOf]; exact fun e => h e.symm)]
  simp
set_option maxRecDepth 100000 in
set_option maxHeartbeats 8000000 in
theorem parse06F (l : List UInt8) (hl : l.length ≤ 20000) : Fn Tryz.prog 71 [.d (.v (.string (tx l)))] (resQ (parseR l)) := by
 have q0 := qInt 0 (by decide) (by decide)
 rw [show ((0 : Int) : Rat) = 0 from rfl] at q0
 refine Fn.of Tryz.func71 rfl (by kernel_rfl) Tryz.ntmps71 Tryz.results71 rfl fun w0 S0 => ?_
 cases l with
 | nil =>
  have e0 : ([] : List UInt8).length = 0 := rfl
  have hA : Fn Tryz.prog 129 [.d (.v (.string (tx []))), .d (.v (.int .u8 47))] [.d (.v (.int .i64 (-1)))] := at06F [] 47 (by decide)
  have hB : Fn Tryz.prog 129 [.d (.v (.string (tx []))), .d (.v (.int .u8 46))] [.d (.v (.int .i64 (-1)))] := at06F [] 46 (by decide)
  have hp : Fn Tryz.prog 130 [.d (.v (.string (tx [])))] (resB none) := parse04F [] (by decide)
  rw [show parseR [] = none by decide]
  refine wk ?_
  ((try (first | intro K ms hms hK | intro K hK)); (first | apply Chain.go | apply Chain.goD); exact rfl; exact rfl; exact Loc.strLen rfl rfl (by kernel_rfl))
  rw [tx_size]
  refine wk ?_
  refine c1 hA ?_
  refine wk ?_
  refine c1 hB ?_
  refine wk ?_
  refine c1 hp ?_
  refine wk ?_
  refine c1 q0 ?_
  refine wk ?_
  exact ⟨.cn rfl rfl inferInstance rfl ⟨.inl rfl, .inl rfl, .inl rfl, trivial⟩, .d rfl (.inl rfl), trivial⟩
 | cons c t =>
  have hc := UInt8.toNat_lt c
  have e1 : (c :: t).length = t.length + 1 := List.length_cons ..
  have hget : (c :: t)[0]? = some c := rfl
  obtain ⟨nb, hnb⟩ : ∃ nb, nb = decide ((c.toNat : Int) = 45) := ⟨_, rfl⟩
  refine wk ?_
  ((try (first | intro K ms hms hK | intro K hK)); (first | apply Chain.go | apply Chain.goD); exact rfl; exact rfl; exact Loc.strLen rfl rfl (by kernel_rfl))
  rw [tx_size]
  refine wk ?_
  ((try (first | intro K ms hms hK | intro K hK)); (first | apply Chain.go | apply Chain.goD); exact rfl; exact rfl; exact Loc.strAt (c := c) 0 rfl rfl rfl rfl hget (by kernel_rfl))
  ((try (first | intro K ms hms hK | intro K hK)); (first | apply Chain.go | apply Chain.goD); exact rfl; exact rfl; exact Loc.eqlB nb rfl rfl rfl hnb)
  refine wk ?_
  refine AC.join (X := Bool × List UInt8) (fun x => ⟨[(0, .d (.v (.string (tx x.2)))), (2, .p 2 0), (4, .d (.v (.bool x.1)))], [(2, AO.box 136 (constAVs [.bool false, .slice none 0 0, .slice none 0 0]))]⟩) (fun x => x.2.length ≤ 20000 ∧ parseR (c :: t) = parseM x.1 x.2) ?_ fun ⟨neg, m⟩ ⟨hm, hr⟩ => ?_
  ·rw [parseR_cons]
   cases nb with
   | true =>
    have h45 : c.toNat = 45 := by have := (decide_eq_true_iff.1 hnb.symm); omega
    rw [if_pos (UInt8.toNat_inj.1 h45)]
    refine wk ?_
    ((try (first | intro K ms hms hK | intro K hK)); (first | apply Chain.go | apply Chain.goD); exact rfl; exact rfl; exact Loc.strFrom 1 rfl rfl rfl rfl (by omega) (by kernel_rfl))
    refine wk ?_
    exact ⟨(true, t), ⟨by dsimp only; omega, rfl⟩, ⟨rfl, rfl, rfl, trivial⟩, ⟨rfl, trivial⟩⟩
   | false =>
    have h45 : ¬ c = 45 := fun e => by rw [e] at hnb; revert hnb; decide
    rw [if_neg h45]
    refine wk ?_
    exact ⟨(false, c :: t), ⟨hl, rfl⟩, ⟨rfl, rfl, rfl, trivial⟩, ⟨rfl, trivial⟩⟩
  dsimp only at hm ⊢
  have hA : Fn Tryz.prog 129 [.d (.v (.string (tx m))), .d (.v (.int .u8 47))] [.d (.v (.int .i64 (Lib.index m [47])))] := at06F m 47 (by omega)
  have hB : Fn Tryz.prog 129 [.d (.v (.string (tx m))), .d (.v (.int .u8 46))] [.d (.v (.int .i64 (Lib.index m [46])))] := at06F m 46 (by omega)
  rw [hr]
  rcases idx_cases m 47 with hI | ⟨i, hI, hi⟩
  ·rw [hI] at hA
   rcases idx_cases m 46 with hJ | ⟨i, hJ, hi⟩
   ·rw [hJ] at hB
    have hp := parse04F m (by omega)
    have hlt := fun n => readN_lt (l := m) (n := n)
    have hR := pM_plain (neg := neg) hI hJ
    unfold ratN at hR
    cases hx : readN m with
    | none =>
     rw [hx] at hp hR
     rw [hR]
     refine wk ?_
     refine c1 hA ?_
     refine wk ?_
     refine c1 hB ?_
     refine wk ?_
     refine c1 hp ?_
     refine wk ?_
     refine c1 q0 ?_
     refine wk ?_
     exact ⟨.cn rfl rfl inferInstance rfl ⟨.inl rfl, .inl rfl, .inl rfl, trivial⟩, .d rfl (.inl rfl), trivial⟩
    | some x =>
     rw [hx] at hp hR
     rw [show parseM neg m = some (mkRat (sgn neg x) 1) from hR]
     have b1 := bits_ten (hlt x hx)
     have b2 : (bits 1).length ≤ 100 := bits_len_le (by decide)
     refine wk ?_
     refine c1 hA ?_
     refine wk ?_
     refine c1 hB ?_
     refine wk ?_
     refine c1 hp ?_
     refine wk ?_
     refine c1 (qWord 1 (by decide)) ?_
     refine wk ?_
     refine c1 (qOf neg x 1 (by omega) (by omega) (by omega)) ?_
     refine wk ?_
     exact ⟨.cn rfl rfl inferInstance rfl ⟨.inl rfl, .inl rfl, .inl rfl, trivial⟩, .d rfl (.inl rfl), trivial⟩
   ·rw [hJ] at hB
    have hR := pM_point (neg := neg) hI hJ
    have hpa := parse04F (m.take i) (by simp; omega)
    have hpb := parse04F (m.drop (i + 1)) (by simp; omega)
    have hla := fun n => readN_lt (l := m.take i) (n := n)
    have hlb := fun n => readN_lt (l := m.drop (i + 1)) (n := n)
    have hdl : (m.drop (i + 1)).length = m.length - i - 1 := by rw [List.length_drop]; omega
    have htl : (m.take i).length ≤ i := by simp; omega
    have hte := tens04F (m.length - i - 1) (by omega)
    cases hx : readN (m.take i) with
    | none =>
     cases hy : readN (m.drop (i + 1)) with
     | none =>
      rw [hx] at hpa hR
      rw [hy] at hpb hR
      rw [show parseM neg m = none from hR]
      refine wk ?_
      refine c1 hA ?_
      refine wk ?_
      refine c1 hB ?_
      refine wk ?_
      ((try (first | intro K ms hms hK | intro K hK)); (first | apply Chain.go | apply Chain.goD); exact rfl; exact rfl; exact Loc.strTo i rfl rfl rfl rfl (by omega) (by kernel_rfl))
      refine c1 hpa ?_
      refine wk ?_
      ((try (first | intro K ms hms hK | intro K hK)); (first | apply Chain.go | apply Chain.goD); exact rfl; exact rfl; exact Loc.strFrom (i + 1) rfl rfl rfl (by omega) (by omega) (by kernel_rfl))
      refine c1 hpb ?_
      refine wk ?_
      refine c1 q0 ?_
      refine wk ?_
      exact ⟨.cn rfl rfl inferInstance rfl ⟨.inl rfl, .inl rfl, .inl rfl, trivial⟩, .d rfl (.inl rfl), trivial⟩
     | some y =>
      rw [hx] at hpa hR
      rw [hy] at hpb hR
      rw [show parseM neg m = none from hR]
      refine wk ?_
      refine c1 hA ?_
      refine wk ?_
      refine c1 hB ?_
      refine wk ?_
      ((try (first | intro K ms hms hK | intro K hK)); (first | apply Chain.go | apply Chain.goD); exact rfl; exact rfl; exact Loc.strTo i rfl rfl rfl rfl (by omega) (by kernel_rfl))
      refine c1 hpa ?_
      refine wk ?_
      ((try (first | intro K ms hms hK | intro K hK)); (first | apply Chain.go | apply Chain.goD); exact rfl; exact rfl; exact Loc.strFrom (i + 1) rfl rfl rfl (by omega) (by omega) (by kernel_rfl))
      refine c1 hpb ?_
      refine wk ?_
      refine c1 q0 ?_
      refine wk ?_
      exact ⟨.cn rfl rfl inferInstance rfl ⟨.inl rfl, .inl rfl, .inl rfl, trivial⟩, .d rfl (.inl rfl), trivial⟩
    | some x =>
     have b1 := bits_ten (hla x hx)
     cases hy : readN (m.drop (i + 1)) with
     | none =>
      rw [hx] at hpa hR
      rw [hy] at hpb hR
      rw [show parseM neg m = none from hR]
      refine wk ?_
      refine c1 hA ?_
      refine wk ?_
      refine c1 hB ?_
      refine wk ?_
      ((try (first | intro K ms hms hK | intro K hK)); (first | apply Chain.go | apply Chain.goD); exact rfl; exact rfl; exact Loc.strTo i rfl rfl rfl rfl (by omega) (by kernel_rfl))
      refine c1 hpa ?_
      refine wk ?_
      ((try (first | intro K ms hms hK | intro K hK)); (first | apply Chain.go | apply Chain.goD); exact rfl; exact rfl; exact Loc.strFrom (i + 1) rfl rfl rfl (by omega) (by omega) (by kernel_rfl))
      refine c1 hpb ?_
      refine wk ?_
      refine c1 q0 ?_
      refine wk ?_
      exact ⟨.cn rfl rfl inferInstance rfl ⟨.inl rfl, .inl rfl, .inl rfl, trivial⟩, .d rfl (.inl rfl), trivial⟩
     | some y =>
      rw [hx] at hpa hR
      rw [hy, hdl] at hR
      rw [hy] at hpb
      have b2 := bits_ten (hlb y hy)
      have h1 := hlb y hy
      rw [hdl] at b2 h1
      obtain ⟨k, hk⟩ : ∃ k, m.length - i - 1 = k := ⟨_, rfl⟩
      rw [hk] at hte b2 h1 hdl hR
      rw [show parseM neg m = some (mkRat (sgn neg (x * 10 ^ k + y)) (10 ^ k)) from hR]
      have b3 := bits_ten (n := 10 ^ k) (k := k + 1) (Nat.pow_lt_pow_right (by decide) (by omega))
      have b4 : x * 10 ^ k < 10 ^ ((m.take i).length + k) := by rw [Nat.pow_add]; exact Nat.mul_lt_mul_of_pos_right (hla x hx) (Nat.pow_pos (by decide))
      have b5 := bits_ten b4
      have b6 : x * 10 ^ k + y < 10 ^ ((m.take i).length + k + 1) := by
       have h2 : 10 ^ k ≤ 10 ^ ((m.take i).length + k) := Nat.pow_le_pow_right (by decide) (by omega)
       rw [Nat.pow_succ 10 ((m.take i).length + k)]
       omega
      have b7 := bits_ten b6
      have hki : (k : Int) = (m.length : Int) - i - 1 := by omega
      refine wk ?_
      refine c1 hA ?_
      refine wk ?_
      refine c1 hB ?_
      refine wk ?_
      ((try (first | intro K ms hms hK | intro K hK)); (first | apply Chain.go | apply Chain.goD); exact rfl; exact rfl; exact Loc.strTo i rfl rfl rfl rfl (by omega) (by kernel_rfl))
      refine c1 hpa ?_
      refine wk ?_
      ((try (first | intro K ms hms hK | intro K hK)); (first | apply Chain.go | apply Chain.goD); exact rfl; exact rfl; exact Loc.strFrom (i + 1) rfl rfl rfl (by omega) (by omega) (by kernel_rfl))
      refine c1 hpb ?_
      refine wk ?_
      ((try (first | intro K ms hms hK | intro K hK)); (first | apply Chain.go | apply Chain.goD); exact rfl; exact rfl; exact Loc.strLen rfl rfl (by kernel_rfl))
      rw [tx_size]
      refine wk ?_
      rw [← hki]
      refine c1 hte ?_
      refine wk ?_
      refine c1 (bMul x (10 ^ k) (by omega)) ?_
      refine wk ?_
      refine c1 (bAdd (x * 10 ^ k) y (by omega) (by omega)) ?_
      refine wk ?_
      refine c1 (qOf neg (x * 10 ^ k + y) (10 ^ k) (by omega) (by omega) (Nat.pow_pos (by decide))) ?_
      refine wk ?_
      exact ⟨.cn rfl rfl inferInstance rfl ⟨.inl rfl, .inl rfl, .inl rfl, trivial⟩, .d rfl (.inl rfl), trivial⟩
  ·rw [hI] at hA
   have hR := pM_bar (neg := neg) hI
   have hpa := parse04F (m.take i) (by simp; omega)
   have hpb := parse04F (m.drop (i + 1)) (by simp; omega)
   have hla := fun n => readN_lt (l := m.take i) (n := n)
   have hlb := fun n => readN_lt (l := m.drop (i + 1)) (n := n)
   have hdl : (m.drop (i + 1)).length ≤ m.length := by simp
   have htl : (m.take i).length ≤ m.length := by simp; omega
   unfold ratN at hR
   generalize Lib.index m [46] = J at hB
   cases hy : readN (m.drop (i + 1)) with
   | none =>
    rw [hy] at hpb hR
    cases hx : readN (m.take i) with
    | none =>
     rw [hx] at hpa
     rw [show parseM neg m = none from hR]
     refine wk ?_
     refine c1 hA ?_
     refine wk ?_
     refine c1 hB ?_
     refine wk ?_
     ((try (first | intro K ms hms hK | intro K hK)); (first | apply Chain.go | apply Chain.goD); exact rfl; exact rfl; exact Loc.strTo i rfl rfl rfl rfl (by omega) (by kernel_rfl))
     refine c1 hpa ?_
     refine wk ?_
     ((try (first | intro K ms hms hK | intro K hK)); (first | apply Chain.go | apply Chain.goD); exact rfl; exact rfl; exact Loc.strFrom (i + 1) rfl rfl rfl (by omega) (by omega) (by kernel_rfl))
     refine c1 hpb ?_
     refine wk ?_
     refine c1 q0 ?_
     refine wk ?_
     exact ⟨.cn rfl rfl inferInstance rfl ⟨.inl rfl, .inl rfl, .inl rfl, trivial⟩, .d rfl (.inl rfl), trivial⟩
    | some x =>
     rw [hx] at hpa
     rw [show parseM neg m = none from hR]
     refine wk ?_
     refine c1 hA ?_
     refine wk ?_
     refine c1 hB ?_
     refine wk ?_
     ((try (first | intro K ms hms hK | intro K hK)); (first | apply Chain.go | apply Chain.goD); exact rfl; exact rfl; exact Loc.strTo i rfl rfl rfl rfl (by omega) (by kernel_rfl))
     refine c1 hpa ?_
     refine wk ?_
     ((try (first | intro K ms hms hK | intro K hK)); (first | apply Chain.go | apply Chain.goD); exact rfl; exact rfl; exact Loc.strFrom (i + 1) rfl rfl rfl (by omega) (by omega) (by kernel_rfl))
     refine c1 hpb ?_
     refine wk ?_
     refine c1 q0 ?_
     refine wk ?_
     exact ⟨.cn rfl rfl inferInstance rfl ⟨.inl rfl, .inl rfl, .inl rfl, trivial⟩, .d rfl (.inl rfl), trivial⟩
   | some y =>
    rw [hy] at hpb hR
    have b2 := bits_ten (hlb y hy)
    dsimp only at hR
    cases hx : readN (m.take i) with
    | none =>
     rw [hx] at hpa hR
     rw [show parseM neg m = none from hR]
     refine wk ?_
     refine c1 hA ?_
     refine wk ?_
     refine c1 hB ?_
     refine wk ?_
     ((try (first | intro K ms hms hK | intro K hK)); (first | apply Chain.go | apply Chain.goD); exact rfl; exact rfl; exact Loc.strTo i rfl rfl rfl rfl (by omega) (by kernel_rfl))
     refine c1 hpa ?_
     refine wk ?_
     ((try (first | intro K ms hms hK | intro K hK)); (first | apply Chain.go | apply Chain.goD); exact rfl; exact rfl; exact Loc.strFrom (i + 1) rfl rfl rfl (by omega) (by omega) (by kernel_rfl))
     refine c1 hpb ?_
     refine wk ?_
     refine c1 q0 ?_
     refine wk ?_
     exact ⟨.cn rfl rfl inferInstance rfl ⟨.inl rfl, .inl rfl, .inl rfl, trivial⟩, .d rfl (.inl rfl), trivial⟩
    | some x =>
     rw [hx] at hpa hR
     have b1 := bits_ten (hla x hx)
     dsimp only at hR
     have hyl : ((bits y).map fun b => [D.v (encB b)]).length = (bits y).length := List.length_map ..
     by_cases hy0 : y = 0
     ·rw [if_pos hy0] at hR
      have hb0 : (bits y).length = 0 := by rw [hy0, bits_zero']; rfl
      rw [show parseM neg m = none from hR]
      refine wk ?_
      refine c1 hA ?_
      refine wk ?_
      refine c1 hB ?_
      refine wk ?_
      ((try (first | intro K ms hms hK | intro K hK)); (first | apply Chain.go | apply Chain.goD); exact rfl; exact rfl; exact Loc.strTo i rfl rfl rfl rfl (by omega) (by kernel_rfl))
      refine c1 hpa ?_
      refine wk ?_
      ((try (first | intro K ms hms hK | intro K hK)); (first | apply Chain.go | apply Chain.goD); exact rfl; exact rfl; exact Loc.strFrom (i + 1) rfl rfl rfl (by omega) (by omega) (by kernel_rfl))
      refine c1 hpb ?_
      refine wk ?_
      refine c1 q0 ?_
      refine wk ?_
      exact ⟨.cn rfl rfl inferInstance rfl ⟨.inl rfl, .inl rfl, .inl rfl, trivial⟩, .d rfl (.inl rfl), trivial⟩
     ·rw [if_neg hy0] at hR
      have hb0 : (bits y).length ≠ 0 := fun e => hy0 (bits_eq_nil.1 (List.length_eq_zero_iff.1 e))
      rw [hR]
      refine wk ?_
      refine c1 hA ?_
      refine wk ?_
      refine c1 hB ?_
      refine wk ?_
      ((try (first | intro K ms hms hK | intro K hK)); (first | apply Chain.go | apply Chain.goD); exact rfl; exact rfl; exact Loc.strTo i rfl rfl rfl rfl (by omega) (by kernel_rfl))
      refine c1 hpa ?_
      refine wk ?_
      ((try (first | intro K ms hms hK | intro K hK)); (first | apply Chain.go | apply Chain.goD); exact rfl; exact rfl; exact Loc.strFrom (i + 1) rfl rfl rfl (by omega) (by omega) (by kernel_rfl))
      refine c1 hpb ?_
      refine wk ?_
      refine c1 (qOf neg x y (by omega) (by omega) (by omega)) ?_
      refine wk ?_
      exact ⟨.cn rfl rfl inferInstance rfl ⟨.inl rfl, .inl rfl, .inl rfl, trivial⟩, .d rfl (.inl rfl), trivial⟩
end Go.Proofs.YthdkkpocihkgbaaGreatDoor
