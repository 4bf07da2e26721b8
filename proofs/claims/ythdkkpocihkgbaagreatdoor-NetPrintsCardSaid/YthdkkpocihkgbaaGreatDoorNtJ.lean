/-
 The law attestlaw15: its own functions.
-/
import Derived.Test.YthdkkpocihkgbaaGreatDoorNtI
namespace Go.Proofs.YthdkkpocihkgbaaGreatDoor
open Go.RowKit
attribute [local irreducible] AC Do St
/-- A layer as the law is handed it. -/
structure LQ where
 kind : Int
 W : List (List (Bool × List Nat × List Nat))
 B : List (Bool × List Nat × List Nat)
 G : List (List Int)
def enNs (l : List (Bool × List Nat × List Nat)) : D := .l (l.map enN)
def enLQ (l : LQ) : List D := [.v (.int .i64 l.kind), rowsD (l.W.map enNs), enNs l.B, rowsD (l.G.map enIs)]
def enQN (n : Int) (ls : List LQ) : List D := [.v (.int .i64 n), .l (ls.map enLQ)]
def okLQ (l : LQ) : Prop := (∀ r ∈ l.W, okP r) ∧ okP l.B
def cutG (g : List Int) : List Int := g.take 34
def ofLN (l : LQ) : LN := ⟨l.kind, (l.W.take 34).map ratsN, ratsN l.B, (l.G.take 34).map cutG⟩
def ofNs (ls : List LQ) : List LN := (ls.take 8).map ofLN
set_option maxRecDepth 100000 in
set_option maxHeartbeats 4000000 in
theorem of15F (n : Int) (ls : List LQ) (hl : ∀ l ∈ ls, okLQ l) : Fn Tryz.prog 15 [.g (enQN n ls)] [.g (enNet n (ofNs ls))] := by
 refine Fn.of Tryz.func15 rfl (by kernel_rfl) Tryz.ntmps15 Tryz.results15 rfl fun w0 S0 => ?_
 refine wk ?_
 refine AC.rowBox 3 1 92 30 4 rfl rfl rfl ?_
 refine AC.loop (X := Nat) (fun i => ⟨[(1, .p 1 0), (2, .p 2 0), (3, .p 3 0), (4, .d (.v (.int .i64 (i : Int))))], [(1, .box 38 ((enQN n ls).map .d)), (2, .box 25 [.d (.v (.int .i64 0)), .d .n]), (3, .box 25 [.d (.v (.int .i64 n)), .r 92 i]), (92, .row i 30 4 (((ls.take i).map ofLN).map enLN))]⟩) (fun i => i ≤ ls.length ∧ i ≤ 8) (fun i => 8 - i) 0 ⟨Nat.zero_le _, Nat.zero_le _⟩ ⟨rfl, rfl, rfl, rfl, trivial⟩ ⟨rfl, rfl, rfl, rfl, trivial⟩ ?_
 intro i ⟨hi, hi8⟩
 have hend : (i = ls.length ∨ i = 8) → (ls.take i).map ofLN = ofNs ls := fun h => by
  show _ = (ls.take 8).map ofLN
  rcases h with h | h
  ·rw [h, List.take_of_length_le (Nat.le_refl _), List.take_of_length_le (by omega)]
  ·rw [h]
 dsimp only
 refine wk ?_
 refine s1 (fun h1 => ?_) (fun h1 => ?_)
 ·have hi' : i < ls.length := by omega
  have hget : ls[i]? = some ls[i] := List.getElem?_eq_getElem hi'
  have hok := hl _ (List.getElem_mem hi')
  have hts : ((ls.take (i + 1)).map ofLN).map enLN = ((ls.take i).map ofLN).map enLN ++ [enLN (ofLN ls[i])] := by
   rw [List.take_succ_eq_append_getElem hi', List.map_append, List.map_append]; rfl
  generalize ls[i] = l at hget hok hts
  refine wk ?_
  refine s1 (fun h2 => ?_) (fun h2 => ?_)
  ·refine wk ?_
   refine c1 (ratsF l.B hok.2) ?_
   refine wk ?_
   refine AC.rowBox 6 1 46 27 1 rfl rfl rfl ?_
   refine AC.mono (Q' := fun e σ' => e = .exit 2 ∧ ∃ g, subEnv σ'.env [(1, .p 1 0), (2, .p 2 0), (3, .p 3 0), (4, .d (.v (.int .i64 (i : Int)))), (5, .p 5 0), (6, .p 6 0)] ∧ subObj σ'.objs [(6, .box 30 [.d (.v (.int .i64 l.kind)), .r 46 g, .d (enRs (ratsN l.B)), .d .n]), (46, .row g 27 1 (((ofLN l).W.map enRs).map fun x => [x])), (5, .box 126 ((enLQ l).map .d)), (1, .box 38 ((enQN n ls).map .d)), (2, .box 25 [.d (.v (.int .i64 0)), .d .n]), (3, .box 25 [.d (.v (.int .i64 n)), .r 92 i]), (92, .row i 30 4 (((ls.take i).map ofLN).map enLN))]) ?_ ?_
   ·refine AC.loop (X := Nat) (fun j => ⟨[(7, .d (.v (.int .i64 (j : Int)))), (1, .p 1 0), (2, .p 2 0), (3, .p 3 0), (4, .d (.v (.int .i64 (i : Int)))), (5, .p 5 0), (6, .p 6 0)], [(6, .box 30 [.d (.v (.int .i64 l.kind)), .r 46 j, .d (enRs (ratsN l.B)), .d .n]), (46, .row j 27 1 ((((l.W.take j).map ratsN).map enRs).map fun x => [x])), (5, .box 126 ((enLQ l).map .d)), (1, .box 38 ((enQN n ls).map .d)), (2, .box 25 [.d (.v (.int .i64 0)), .d .n]), (3, .box 25 [.d (.v (.int .i64 n)), .r 92 i]), (92, .row i 30 4 (((ls.take i).map ofLN).map enLN))]⟩) (fun j => j ≤ l.W.length ∧ j ≤ 34) (fun j => 34 - j) 0 ⟨Nat.zero_le _, Nat.zero_le _⟩ ⟨rfl, rfl, rfl, rfl, rfl, rfl, rfl, trivial⟩ ⟨rfl, rfl, rfl, rfl, rfl, rfl, rfl, trivial⟩ ?_
    intro j ⟨hj, hj8⟩
    have hend : (j = l.W.length ∨ j = 34) → (l.W.take j).map ratsN = (ofLN l).W := fun h => by
     show _ = (l.W.take 34).map ratsN
     rcases h with h | h
     ·rw [h, List.take_of_length_le (Nat.le_refl _), List.take_of_length_le (by omega)]
     ·rw [h]
    have hwl : (l.W.map enNs).length = l.W.length := List.length_map ..
    dsimp only
    refine wk ?_
    refine s1 (fun h3 => ?_) (fun h3 => ?_)
    ·have hj' : j < l.W.length := by omega
     have hgw : (l.W.map enNs)[j]? = some (enNs l.W[j]) := by rw [List.getElem?_map, List.getElem?_eq_getElem hj']; rfl
     have hok2 := hok.1 _ (List.getElem_mem hj')
     have hts2 : (((l.W.take (j + 1)).map ratsN).map enRs).map (fun x => [x]) = (((l.W.take j).map ratsN).map enRs).map (fun x => [x]) ++ [[enRs (ratsN l.W[j])]] := by
      rw [List.take_succ_eq_append_getElem hj', List.map_append, List.map_append, List.map_append]; rfl
     have hml : ((((l.W.take j).map ratsN).map enRs).map fun x => [x]).length = j := by simp; omega
     generalize l.W[j] = r at hgw hok2 hts2
     refine wk ?_
     refine s1 (fun h4 => ?_) (fun h4 => ?_)
     ·refine wk ?_
      refine c1 (ratsF r hok2) ?_
      refine wk ?_
      exact ⟨j + 1, ⟨by omega, by omega⟩, by omega, ⟨rfl, rfl, rfl, rfl, rfl, rfl, rfl, trivial⟩, ⟨rfl, by dsimp only; rw [hts2]; rfl, rfl, rfl, rfl, rfl, rfl, trivial⟩⟩
     ·rw [hend (by omega)]
      refine wk ?_
      exact ⟨rfl, j, ⟨rfl, rfl, rfl, rfl, rfl, rfl, trivial⟩, ⟨rfl, rfl, rfl, rfl, rfl, rfl, rfl, trivial⟩⟩
    ·rw [hend (by omega)]
     refine wk ?_
     exact ⟨rfl, j, ⟨rfl, rfl, rfl, rfl, rfl, rfl, trivial⟩, ⟨rfl, rfl, rfl, rfl, rfl, rfl, rfl, trivial⟩⟩
   rintro e σ' ⟨rfl, g, q1, q2⟩
   refine AC.sub ⟨[(1, .p 1 0), (2, .p 2 0), (3, .p 3 0), (4, .d (.v (.int .i64 (i : Int)))), (5, .p 5 0), (6, .p 6 0)], [(6, .box 30 [.d (.v (.int .i64 l.kind)), .r 46 g, .d (enRs (ratsN l.B)), .d .n]), (46, .row g 27 1 (((ofLN l).W.map enRs).map fun x => [x])), (5, .box 126 ((enLQ l).map .d)), (1, .box 38 ((enQN n ls).map .d)), (2, .box 25 [.d (.v (.int .i64 0)), .d .n]), (3, .box 25 [.d (.v (.int .i64 n)), .r 92 i]), (92, .row i 30 4 (((ls.take i).map ofLN).map enLN))]⟩ q1 q2 ?_
   clear q1 q2
   refine wk ?_
   refine AC.rowBox 6 3 78 31 1 rfl rfl rfl ?_
   refine AC.mono (Q' := fun e σ' => e = .exit 4 ∧ ∃ k, subEnv σ'.env [(1, .p 1 0), (2, .p 2 0), (3, .p 3 0), (4, .d (.v (.int .i64 (i : Int)))), (5, .p 5 0), (6, .p 6 0)] ∧ subObj σ'.objs [(6, .box 30 [.d (.v (.int .i64 l.kind)), .r 46 g, .d (enRs (ratsN l.B)), .r 78 k]), (46, .row g 27 1 (((ofLN l).W.map enRs).map fun x => [x])), (78, .row k 31 1 (((ofLN l).G.map enIs).map fun x => [x])), (5, .box 126 ((enLQ l).map .d)), (1, .box 38 ((enQN n ls).map .d)), (2, .box 25 [.d (.v (.int .i64 0)), .d .n]), (3, .box 25 [.d (.v (.int .i64 n)), .r 92 i]), (92, .row i 30 4 (((ls.take i).map ofLN).map enLN))]) ?_ ?_
   ·refine AC.loop (X := Nat) (fun j => ⟨[(8, .d (.v (.int .i64 (j : Int)))), (1, .p 1 0), (2, .p 2 0), (3, .p 3 0), (4, .d (.v (.int .i64 (i : Int)))), (5, .p 5 0), (6, .p 6 0)], [(6, .box 30 [.d (.v (.int .i64 l.kind)), .r 46 g, .d (enRs (ratsN l.B)), .r 78 j]), (46, .row g 27 1 (((ofLN l).W.map enRs).map fun x => [x])), (78, .row j 31 1 ((((l.G.take j).map cutG).map enIs).map fun x => [x])), (5, .box 126 ((enLQ l).map .d)), (1, .box 38 ((enQN n ls).map .d)), (2, .box 25 [.d (.v (.int .i64 0)), .d .n]), (3, .box 25 [.d (.v (.int .i64 n)), .r 92 i]), (92, .row i 30 4 (((ls.take i).map ofLN).map enLN))]⟩) (fun j => j ≤ l.G.length ∧ j ≤ 34) (fun j => 34 - j) 0 ⟨Nat.zero_le _, Nat.zero_le _⟩ ⟨rfl, rfl, rfl, rfl, rfl, rfl, rfl, trivial⟩ ⟨rfl, rfl, rfl, rfl, rfl, rfl, rfl, rfl, trivial⟩ ?_
    intro j ⟨hj, hj8⟩
    have hend : (j = l.G.length ∨ j = 34) → (l.G.take j).map cutG = (ofLN l).G := fun h => by
     show _ = (l.G.take 34).map cutG
     rcases h with h | h
     ·rw [h, List.take_of_length_le (Nat.le_refl _), List.take_of_length_le (by omega)]
     ·rw [h]
    have hwl : (l.G.map enIs).length = l.G.length := List.length_map ..
    dsimp only
    refine wk ?_
    refine s1 (fun h3 => ?_) (fun h3 => ?_)
    ·have hj' : j < l.G.length := by omega
     have hgw : (l.G.map enIs)[j]? = some (enIs l.G[j]) := by rw [List.getElem?_map, List.getElem?_eq_getElem hj']; rfl
     have hts2 : (((l.G.take (j + 1)).map cutG).map enIs).map (fun x => [x]) = (((l.G.take j).map cutG).map enIs).map (fun x => [x]) ++ [[enIs (cutG l.G[j])]] := by
      rw [List.take_succ_eq_append_getElem hj', List.map_append, List.map_append, List.map_append]; rfl
     have hml : ((((l.G.take j).map cutG).map enIs).map fun x => [x]).length = j := by simp; omega
     have hk1 : ∀ r : List Int, ∀ c ∈ r.map (fun v => [D.v (.int .i64 v)]), c.length = 1 := fun r c hc => by
      obtain ⟨v, _, rfl⟩ := List.mem_map.1 hc
      rfl
     generalize l.G[j] = r at hgw hts2
     refine wk ?_
     refine s1 (fun h4 => ?_) (fun h4 => ?_)
     ·refine wk ?_
      refine s1 (fun h5 => ?_) (fun h5 => ?_)
      ·refine wk ?_
       ((try (first | intro K ms hms hK | intro K hK)); (first | apply Chain.go | apply Chain.goD); exact rfl; exact rfl; exact Loc.partM (f := fun v => [D.v (.int .i64 v)]) (ts := r) 34 rfl rfl rfl rfl (by omega))
       refine wk ?_
       ((try (first | intro K ms hms hK | intro K hK)); (first | apply Chain.ef | apply Chain.efD); exact rfl; exact rfl; exact Do.appendF rfl rfl rfl rfl rfl (hk1 (r.take 34)) (by simp; omega); exact rfl; exact rfl)
       refine wk ?_
       exact ⟨j + 1, ⟨by omega, by omega⟩, by omega, ⟨rfl, rfl, rfl, rfl, rfl, rfl, rfl, trivial⟩, ⟨rfl, rfl, by dsimp only; rw [hts2]; rfl, rfl, rfl, rfl, rfl, rfl, trivial⟩⟩
      ·have hc : cutG r = r := List.take_of_length_le (by omega)
       rw [hc] at hts2
       refine wk ?_
       ((try (first | intro K ms hms hK | intro K hK)); (first | apply Chain.ef | apply Chain.efD); exact rfl; exact rfl; exact Do.appendF rfl rfl rfl rfl rfl (hk1 r) (by simp; omega); exact rfl; exact rfl)
       refine wk ?_
       exact ⟨j + 1, ⟨by omega, by omega⟩, by omega, ⟨rfl, rfl, rfl, rfl, rfl, rfl, rfl, trivial⟩, ⟨rfl, rfl, by dsimp only; rw [hts2]; rfl, rfl, rfl, rfl, rfl, rfl, trivial⟩⟩
     ·rw [hend (by omega)]
      refine wk ?_
      exact ⟨rfl, j, ⟨rfl, rfl, rfl, rfl, rfl, rfl, trivial⟩, ⟨rfl, rfl, rfl, rfl, rfl, rfl, rfl, rfl, trivial⟩⟩
    ·rw [hend (by omega)]
     refine wk ?_
     exact ⟨rfl, j, ⟨rfl, rfl, rfl, rfl, rfl, rfl, trivial⟩, ⟨rfl, rfl, rfl, rfl, rfl, rfl, rfl, rfl, trivial⟩⟩
   rintro e σ' ⟨rfl, k, q1, q2⟩
   refine AC.sub ⟨[(1, .p 1 0), (2, .p 2 0), (3, .p 3 0), (4, .d (.v (.int .i64 (i : Int)))), (5, .p 5 0), (6, .p 6 0)], [(6, .box 30 [.d (.v (.int .i64 l.kind)), .r 46 g, .d (enRs (ratsN l.B)), .r 78 k]), (46, .row g 27 1 (((ofLN l).W.map enRs).map fun x => [x])), (78, .row k 31 1 (((ofLN l).G.map enIs).map fun x => [x])), (5, .box 126 ((enLQ l).map .d)), (1, .box 38 ((enQN n ls).map .d)), (2, .box 25 [.d (.v (.int .i64 0)), .d .n]), (3, .box 25 [.d (.v (.int .i64 n)), .r 92 i]), (92, .row i 30 4 (((ls.take i).map ofLN).map enLN))]⟩ q1 q2 ?_
   clear q1 q2
   have hml : (((ls.take i).map ofLN).map enLN).length = i := by simp; omega
   refine wk ?_
   (first | intro K ms hms hK | intro K hK)
   refine Chain.frzBox 6 1 rfl rfl rfl ?_
   refine Chain.frzBox 6 3 rfl rfl rfl ?_
   refine wk ?_
   exact ⟨i + 1, ⟨by omega, by omega⟩, by omega, ⟨rfl, rfl, rfl, rfl, trivial⟩, ⟨rfl, rfl, rfl, by rw [hts]; rfl, trivial⟩⟩
  ·rw [← hend (by omega)]
   refine wk ?_
   (first | intro K ms hms hK | intro K hK)
   refine Chain.frzBox 3 1 rfl rfl rfl ?_
   refine wk ?_
   exact ⟨.cn rfl rfl inferInstance rfl ⟨.inl rfl, .inl rfl, trivial⟩, trivial⟩
 ·rw [← hend (by omega)]
  refine wk ?_
  (first | intro K ms hms hK | intro K hK)
  refine Chain.frzBox 3 1 rfl rfl rfl ?_
  refine wk ?_
  exact ⟨.cn rfl rfl inferInstance rfl ⟨.inl rfl, .inl rfl, trivial⟩, trivial⟩
end Go.Proofs.YthdkkpocihkgbaaGreatDoor
