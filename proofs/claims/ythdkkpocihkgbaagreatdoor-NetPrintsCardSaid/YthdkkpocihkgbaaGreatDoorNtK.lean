/-
 The law attestlaw15: its own functions.
-/
import Derived.Test.YthdkkpocihkgbaaGreatDoorNtJ
namespace Go.Proofs.YthdkkpocihkgbaaGreatDoor
open Go.RowKit
attribute [local irreducible] AC Do St
def enQs (l : List Rat) : D := .l (l.map enQ)
def enLD (l : LN) : List D := [.v (.int .i64 l.kind), rowsD (l.W.map enQs), enQs l.B, rowsD (l.G.map enIs)]
def enDN (n : Int) (ls : List LN) : List D := [.v (.int .i64 n), .l (ls.map enLD)]
/-- The numbers of a layer are of k bits, and its rows no longer than memory allows. -/
def smLN (k : Nat) (l : LN) : Prop := (∀ r ∈ l.W, r.length ≤ 1000000 ∧ ∀ q ∈ r, Bd k q) ∧ l.B.length ≤ 1000000 ∧ (∀ q ∈ l.B, Bd k q) ∧ l.W.length ≤ 1000000
set_option maxRecDepth 100000 in
set_option maxHeartbeats 4000000 in
theorem told15F (n : Int) (ls : List LN) (k : Nat) (hk : k ≤ 10000000) (hl : ∀ l ∈ ls, smLN k l) (hlen : ls.length ≤ 1000000) : Fn Tryz.prog 17 [.g (enNet n ls)] [.g (enDN n ls)] := by
 refine Fn.of Tryz.func17 rfl (by kernel_rfl) Tryz.ntmps17 Tryz.results17 rfl fun w0 S0 => ?_
 refine wk ?_
 refine AC.rowBox 3 1 48 62 4 rfl rfl rfl ?_
 refine AC.loop (X := Nat) (fun i => ⟨[(2, .p 2 0), (3, .p 3 0), (13, .d (.l (ls.map enLN))), (14, .d (.v (.int .i64 (ls.length : Int)))), (15, .d (.v (.int .i64 (i : Int))))], [(2, .box 44 [.d (.v (.int .i64 0)), .d .n]), (3, .box 44 [.d (.v (.int .i64 n)), .r 48 i]), (48, .row i 62 4 ((ls.take i).map enLD))]⟩) (fun i => i ≤ ls.length) (fun i => ls.length - i) 0 (Nat.zero_le _) ⟨rfl, rfl, rfl, rfl, rfl, trivial⟩ ⟨rfl, rfl, rfl, trivial⟩ ?_
 intro i hi
 dsimp only
 refine wk ?_
 refine s1 (fun h1 => ?_) (fun h1 => ?_)
 ·have hi' : i < ls.length := by omega
  have hget : ls[i]? = some ls[i] := List.getElem?_eq_getElem hi'
  obtain ⟨o1, o2, o3, o4⟩ := hl _ (List.getElem_mem hi')
  have hts : (ls.take (i + 1)).map enLD = (ls.take i).map enLD ++ [enLD ls[i]] := by
   rw [List.take_succ_eq_append_getElem hi', List.map_append]; rfl
  have hml0 : ((ls.take i).map enLD).length = i := by simp; omega
  generalize ls[i] = l at hget o1 o2 o3 o4 hts
  refine wk ?_
  refine c1 (nums l.B k hk o3 o2) ?_
  refine wk ?_
  refine AC.rowBox 6 1 41 57 1 rfl rfl rfl ?_
  refine AC.loop (X := Nat) (fun j => ⟨[(6, .p 6 0), (28, .d (rowsD (l.W.map enRs))), (29, .d (.v (.int .i64 ((l.W.map enRs).length : Int)))), (30, .d (.v (.int .i64 (j : Int)))), (2, .p 2 0), (3, .p 3 0), (13, .d (.l (ls.map enLN))), (14, .d (.v (.int .i64 (ls.length : Int)))), (15, .d (.v (.int .i64 (i : Int))))], [(6, .box 62 [.d (.v (.int .i64 l.kind)), .r 41 j, .d (enQs l.B), .d (rowsD (l.G.map enIs))]), (41, .row j 57 1 (((l.W.take j).map enQs).map fun x => [x])), (2, .box 44 [.d (.v (.int .i64 0)), .d .n]), (3, .box 44 [.d (.v (.int .i64 n)), .r 48 i]), (48, .row i 62 4 ((ls.take i).map enLD))]⟩) (fun j => j ≤ l.W.length) (fun j => l.W.length - j) 0 (Nat.zero_le _) ⟨rfl, rfl, rfl, rfl, rfl, rfl, rfl, rfl, rfl, trivial⟩ ⟨rfl, rfl, rfl, rfl, rfl, trivial⟩ ?_
  intro j hj
  have hwl : (l.W.map enRs).length = l.W.length := List.length_map ..
  dsimp only
  refine wk ?_
  refine s1 (fun h3 => ?_) (fun h3 => ?_)
  ·have hj' : j < l.W.length := by omega
   have hgw : (l.W.map enRs)[j]? = some (enRs l.W[j]) := by rw [List.getElem?_map, List.getElem?_eq_getElem hj']; rfl
   obtain ⟨p1, p2⟩ := o1 _ (List.getElem_mem hj')
   have hts2 : ((l.W.take (j + 1)).map enQs).map (fun x => [x]) = ((l.W.take j).map enQs).map (fun x => [x]) ++ [[enQs l.W[j]]] := by
    rw [List.take_succ_eq_append_getElem hj', List.map_append, List.map_append]; rfl
   have hml : (((l.W.take j).map enQs).map fun x => [x]).length = j := by simp; omega
   generalize l.W[j] = r at hgw p1 p2 hts2
   refine wk ?_
   refine c1 (nums r k hk p2 p1) ?_
   refine wk ?_
   exact ⟨j + 1, hj', by omega, ⟨rfl, rfl, rfl, rfl, rfl, rfl, rfl, rfl, rfl, trivial⟩, ⟨rfl, by dsimp only; rw [hts2]; rfl, rfl, rfl, rfl, trivial⟩⟩
  ·rw [List.take_of_length_le (l := l.W) (by omega)]
   refine wk ?_
   (first | intro K ms hms hK | intro K hK)
   refine Chain.frzBox 6 1 rfl rfl rfl ?_
   refine wk ?_
   exact ⟨i + 1, hi', by omega, ⟨rfl, rfl, rfl, rfl, rfl, trivial⟩, ⟨rfl, rfl, by dsimp only; rw [hts]; rfl, trivial⟩⟩
 ·rw [List.take_of_length_le (by omega)]
  refine wk ?_
  (first | intro K ms hms hK | intro K hK)
  refine Chain.frzBox 3 1 rfl rfl rfl ?_
  refine wk ?_
  exact ⟨.cn rfl rfl inferInstance rfl ⟨.inl rfl, .inl rfl, trivial⟩, trivial⟩
end Go.Proofs.YthdkkpocihkgbaaGreatDoor
