/-
 attestlaw15.awake.
-/
import Derived.Test.YthdkkpocihkgbaaGreatDoorNtQ
namespace Go.Proofs.YthdkkpocihkgbaaGreatDoor
open Go.RowKit
attribute [local irreducible] AC Do St
def awText : List UInt8 := [110, 101, 116, 32, 50, 10, 97, 102, 102, 105, 110, 101, 10, 114, 111, 119, 32, 49, 32, 45, 49, 47, 50, 32, 51, 10, 114, 101, 108, 117, 10]
def awNet : List LN := [⟨1, [[1, mkRat (-1) 2]], [3], []⟩, ⟨2, [], [], []⟩]
set_option maxRecDepth 100000 in
theorem aw_parse : parseT awText = ((2, awNet), 0, 0) := by kernel_rfl
set_option maxRecDepth 100000 in
theorem aw_eval : evalR 2 awNet [((1 : Int) : Rat), ((2 : Int) : Rat)] = [.d (enRs [((3 : Int) : Rat)]), .d (.v (.int .i64 0))] := by kernel_rfl
theorem bd_small (n : Int) (h : n.natAbs < 16) : Bd 4 (n : Rat) := ⟨by simpa using h, by simp⟩
def bdB (k : Nat) (q : Rat) : Bool := decide (q.num.natAbs < 2 ^ k) && decide (q.den < 2 ^ k)
theorem bdB_out {k : Nat} {q : Rat} (h : bdB k q = true) : Bd k q := by
 unfold bdB at h
 rw [Bool.and_eq_true] at h
 exact ⟨of_decide_eq_true h.1, of_decide_eq_true h.2⟩
theorem aw_bd : (∀ l ∈ awNet, ∀ r ∈ l.W, ∀ q ∈ r, Bd 4 q) ∧ (∀ l ∈ awNet, ∀ q ∈ l.B, Bd 4 q) ∧ ∀ q ∈ [((1 : Int) : Rat), ((2 : Int) : Rat)], Bd 4 q :=
 ⟨fun l hl r hr q hq => bdB_out (List.all_eq_true.1 (List.all_eq_true.1 (List.all_eq_true.1 (show (awNet.all fun l => l.W.all fun r => r.all (bdB 4)) = true by kernel_rfl) l hl) r hr) q hq),
  fun l hl q hq => bdB_out (List.all_eq_true.1 (List.all_eq_true.1 (show (awNet.all fun l => l.B.all (bdB 4)) = true by kernel_rfl) l hl) q hq),
  fun q hq => bdB_out (List.all_eq_true.1 (show ([((1 : Int) : Rat), ((2 : Int) : Rat)].all (bdB 4)) = true by kernel_rfl) q hq)⟩
set_option maxRecDepth 100000 in
set_option maxHeartbeats 4000000 in
theorem awakeF {Kw : World → Prop} [KSt Kw] [KHas Kw MaxL] : FnK Tryz.prog 13 Kw [] [.d (.v (.bool true))] := by
 have hp := parseNF (Kw := Kw) awText (by decide) (by decide +kernel)
 rw [aw_parse] at hp
 unfold parseRes at hp
 dsimp only at hp
 have he := evalF (k := 4) (m := 4) 2 awNet [((1 : Int) : Rat), ((2 : Int) : Rat)] aw_bd.1 aw_bd.2.1 aw_bd.2.2 (by decide)
 rw [aw_eval] at he
 have h1 := ratInt 1 (by decide) (by decide)
 have h2 := ratInt 2 (by decide) (by decide)
 have h3 := ratInt 3 (by decide) (by decide)
 have hc := ratCmp (bd_small 3 (by decide)) (bd_small 3 (by decide)) (by decide)
 have hz : sgnR (((3 : Int) : Rat) - ((3 : Int) : Rat)) = 0 := by decide +kernel
 rw [hz] at hc
 refine FnK.of Tryz.func13 rfl (by kernel_rfl) Tryz.ntmps13 Tryz.results13 rfl fun w0 S0 hK0 => ?_
 refine wk ?_
 refine c1 hp ?_
 refine wk ?_
 refine c1 h1 ?_
 refine wk ?_
 refine c1 h2 ?_
 refine wk ?_
 refine c1 he ?_
 have hget : ([((3 : Int) : Rat)] : List Rat)[0]? = some ((3 : Int) : Rat) := rfl
 have hl : ([((3 : Int) : Rat)] : List Rat).length = 1 := rfl
 refine wk ?_
 refine c1 h3 ?_
 refine wk ?_
 refine c1 hc ?_
 refine wk ?_
 exact ⟨.d rfl (.inl rfl), trivial⟩
end Go.Proofs.YthdkkpocihkgbaaGreatDoor
