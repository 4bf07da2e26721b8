import Derived.Test.YtbbpecfapohlaaaGreatDoorBitsW
import Derived.Test.YtbbpecfapohlaaaGreatDoorNumD
import Derived.Test.YtbbpecfapohlaaaGreatDoorK3
import Derived.Test.YtbbpecfapohlaaaGreatDoorRows
namespace Go.Proofs.YtbbpecfapohlaaaGreatDoor
open Go.RowKit
section
variable {α : Type} {R : Rp α} {enc : α → Value} {ok : α → Prop} {S : Nat → Prop} {w : World}
theorem One.toRD (O : One R enc ok) (h1 : ∀ x, (enc x).oneCell' = true) {v : Value} {xs : List α} (h : (Rp.slice R).rel S w [v] xs) : RD S w v (.l (xs.map fun x => [.v (enc x)])) := by
  obtain ⟨a, c, e, h2, h3, h4⟩ := h
  injection e with e
  subst e
  refine RD.ofCells (k := 1) (css := xs.map fun x => [enc x]) (by simp) h2 h3 (by simp) (fun i h => by simp) (fun i h h' => ?_) (fun hp => ?_)
  · simp only [List.getElem_map]
    exact .cons (.v (h1 _)) .nil
  · obtain ⟨b, o, ha, hb, hel⟩ := h4 hp
    refine ⟨b, o, ha, hb, fun i hi j v hv => ?_⟩
    have hi' : i < xs.length := by simpa using hi
    obtain ⟨es, hr, hc⟩ := hel i hi'
    obtain ⟨rfl, _⟩ := O.rel.1 hr
    simp only [List.getElem_map] at hv
    have hj : j = 0 := by
      have := (List.getElem?_eq_some_iff.1 hv).1
      simpa using this
    subst hj
    have := hc 0 (by simp)
    rw [O.k] at this
    simp only [List.getElem?_cons_zero, Option.some.injEq] at hv
    subst hv
    simpa [Nat.add_assoc] using this
theorem One.ofRD (O : One R enc ok) {v : Value} {xs : List α} (h : RD S w v (.l (xs.map fun x => [.v (enc x)]))) (hok : ∀ x ∈ xs, ok x) : (Rp.slice R).rel S w [v] xs := by
  cases v with
  | slice a n c =>
    obtain ⟨hn, hc, hm, k, css, hl, hk, hr, ha⟩ := RD.cells h
    have hlx : n = xs.length := by simpa using hn
    subst hlx
    refine ⟨a, c, rfl, hc, hm, fun hp => ?_⟩
    obtain ⟨b, o, e, hb, hcell⟩ := ha hp
    refine ⟨b, o, e, hb, fun i hi => ?_⟩
    have hk1 : k = 1 := by rw [← hk i (by simpa using hi)]; simp
    subst hk1
    have hi' : i < css.length := by rw [hl]; simpa using hi
    have hrr := hr i hi' (by simpa using hi)
    simp only [List.getElem_map] at hrr
    obtain ⟨u, h1, h2⟩ := hrr.at (i := 0) rfl
    have h2' : u = enc xs[i] := by cases h2; rfl
    refine ⟨[enc xs[i]], O.rel.2 ⟨rfl, hok _ (List.getElem_mem hi)⟩, fun j hj => ?_⟩
    have hj : j = 0 := by simpa using hj
    subst hj
    rw [O.k]
    have := hcell i hi' 0 u h1
    rw [h2'] at this
    simpa [Nat.add_assoc] using this
  | _ => cases h
end
theorem limbs_one : limbs 1 = [1] := by unfold limbs; rw [digs_pos (by decide) (by decide)]; rw [show 1 / 4294967296 = 0 by decide, digs_zero]
theorem bd_len {k n : Nat} (h : n < 2 ^ k) (hk : k ≤ 100000000) : (limbs n).length ≤ 100000000 := Nat.le_trans (limbs_len_le' h) hk
def denL (d : Nat) : List Nat := if d = 1 then [] else limbs d
def sgnR (q : Rat) : Int := if q.num < 0 then -1 else if q.num = 0 then 0 else 1
def enL (l : List Nat) : D := .l (l.map fun c => [.v (encU c)])
def enB (l : List Bool) : D := .l (l.map fun b => [.v (encB b)])
/-- A rational number of the program, of the document, cell by cell. -/
def enR (q : Rat) : List D := [.v (.bool (decide (q.num < 0))), enL (limbs q.num.natAbs), enL (denL q.den)]
def enQ (q : Rat) : List D := [.v (.bool (decide (q.num < 0))), enB (bits q.num.natAbs), enB (bits q.den)]
section
variable {S : Nat → Prop} {w : World} {v : Value}
theorem RVs.one {us : List Value} {x : DV} (h : RVs S w us [x]) : ∃ u, us = [u] ∧ RV S w u x := by
  match us, h with
  | [u], h => exact ⟨u, rfl, h.2 0 (by simp) (by simp)⟩
  | [], h => exact absurd h.1 (by simp)
  | _ :: _ :: _, h => exact absurd h.1 (by simp)
theorem RVs.two {us : List Value} {x y : DV} (h : RVs S w us [x, y]) : ∃ u v, us = [u, v] ∧ RV S w u x ∧ RV S w v y := by
  match us, h with
  | [u, v], h => exact ⟨u, v, rfl, h.2 0 (by simp) (by simp), h.2 1 (by simp) (by simp)⟩
  | [], h => exact absurd h.1 (by simp)
  | [_], h => exact absurd h.1 (by simp)
  | _ :: _ :: _ :: _, h => exact absurd h.1 (by simp)
theorem RVs.three {us : List Value} {x y z : DV} (h : RVs S w us [x, y, z]) : ∃ u v t, us = [u, v, t] ∧ RV S w u x ∧ RV S w v y ∧ RV S w t z := by
  match us, h with
  | [u, v, t], h => exact ⟨u, v, t, rfl, h.2 0 (by simp) (by simp), h.2 1 (by simp) (by simp), h.2 2 (by simp) (by simp)⟩
  | [], h => exact absurd h.1 (by simp)
  | [_], h => exact absurd h.1 (by simp)
  | [_, _], h => exact absurd h.1 (by simp)
  | _ :: _ :: _ :: _ :: _, h => exact absurd h.1 (by simp)
end
abbrev Res (S : Nat → Prop) (w w' : World) : Nat → Prop := fun b => (S b ∨ w.heap.size ≤ b) ∧ b < w'.heap.size
theorem mo_res {S : Nat → Prop} {w w' : World} : ∀ b, Mo no w.heap.size w' b → Res S w w' b := fun _ hb => ⟨.inr (hb.1.resolve_left id), hb.2⟩
theorem RV.mono {S S' : Nat → Prop} {w : World} {u : Value} {x : DV} (h : RV S w u x) (hs : ∀ b, S b → S' b) : RV S' w u x := h.keep fun b hb => ⟨hs b hb, rfl⟩
abbrev DgU (l : List Nat) : Prop := ∀ x ∈ l, x < 4294967296
/-- A list of limbs that is handed in. -/
theorem limbIn {S : Nat → Prop} {w : World} {v : Value} {l : List Nat} (hS : ∀ b, S b → b < w.heap.size) (h : RV S w v (.d (enL l))) (hd : DgU l) : ∃ a c, v = .slice a l.length c ∧ Rp.lst.rel (Lt w.heap.size) w [.slice a l.length c] l := by
  have q := oneU.ofRD (RD.mono h hS) hd
  obtain ⟨a, c, e, _⟩ := id q
  injection e with e
  subst e
  exact ⟨a, c, rfl, q⟩
theorem limbOut {S : Nat → Prop} {w w' : World} {v : Value} {l : List Nat} (h : Rp.lst.rel (Mo no w.heap.size w') w' [v] l) : RV (Res S w w') w' v (.d (enL l)) := RD.mono (oneU.toRD (fun _ => rfl) h) mo_res
section
variable {l m : List Nat} (hl : DgU l) (hm : DgU m)
include hl
theorem normG (h1 : l.length ≤ 100000000) : Fn Tryz.prog 211 [.d (enL l)] [.d (enL (limbs (dval 4294967296 l)))] :=
  ⟨⟨_, Tryz.func211, by kernel_rfl, by kernel_rfl⟩, fun S w vs hS hv => by
    obtain ⟨u, rfl, ha⟩ := hv.one
    obtain ⟨a, c, rfl, q⟩ := limbIn hS ha hl
    refine (norm_any l a _ c w _ q (by omega)).mono ?_
    rintro e w' ⟨a, c, rfl, hx, hr⟩
    exact ⟨_, rfl, hx, limbOut hr⟩⟩
end
section
variable {l m : List Nat} (hl : DgU l) (hm : DgU m)
include hl hm
theorem cmpG : Fn Tryz.prog 274 [.d (enL l), .d (enL m)] [.d (.v (.int .i64 (cmpN (dval 4294967296 l) (dval 4294967296 m))))] :=
  ⟨⟨_, Tryz.func274, by kernel_rfl, by kernel_rfl⟩, fun S w vs hS hv => by
    obtain ⟨u, v, rfl, ha, hb⟩ := hv.two
    obtain ⟨a, c, rfl, q⟩ := limbIn hS ha hl
    obtain ⟨a', c', rfl, q'⟩ := limbIn hS hb hm
    refine (cmp_any l m a a' _ _ c c' w _ _ q q').mono ?_
    rintro e w' ⟨rfl, q, rfl⟩
    exact ⟨_, rfl, (Below.refl _ _).drN q, RD.v rfl⟩⟩
theorem gcdG (h1 : l.length ≤ 100000000) (h2 : m.length ≤ 100000000) : Fn Tryz.prog 273 [.d (enL l), .d (enL m)] [.d (enL (limbs (Nat.gcd (dval 4294967296 l) (dval 4294967296 m))))] :=
  ⟨⟨_, Tryz.func273, by kernel_rfl, by kernel_rfl⟩, fun S w vs hS hv => by
    obtain ⟨u, v, rfl, ha, hb⟩ := hv.two
    obtain ⟨a, c, rfl, q⟩ := limbIn hS ha hl
    obtain ⟨a', c', rfl, q'⟩ := limbIn hS hb hm
    refine (gcd_any l m a a' _ _ c c' w q q' h1 h2).mono ?_
    rintro e w' ⟨a, c, rfl, hx, hr⟩
    exact ⟨_, rfl, hx, limbOut hr⟩⟩
theorem divG (h1 : l.length ≤ 100000000) (h2 : m.length ≤ 100000000) (hy : 0 < dval 4294967296 m) : Fn Tryz.prog 275 [.d (enL l), .d (enL m)] [.d (enL (limbs (dval 4294967296 l / dval 4294967296 m))), .d (enL (limbs (dval 4294967296 l % dval 4294967296 m))), .d (.v (.bool true))] :=
  ⟨⟨_, Tryz.func275, by kernel_rfl, by kernel_rfl⟩, fun S w vs hS hv => by
    obtain ⟨u, v, rfl, ha, hb⟩ := hv.two
    obtain ⟨a, c, rfl, q⟩ := limbIn hS ha hl
    obtain ⟨a', c', rfl, q'⟩ := limbIn hS hb hm
    refine (divmod_any l m a a' _ _ c c' w q q' h1 h2 hy).mono ?_
    rintro e w' ⟨a, c, a', c', rfl, hx, hr, hr'⟩
    refine ⟨_, rfl, hx, [.slice a _ c, .slice a' _ c', .bool true], rfl, rfl, fun i h h' => ?_⟩
    match i, h with
    | 0, _ => exact limbOut hr
    | 1, _ => exact limbOut hr'
    | 2, _ => exact .v rfl⟩
end
theorem limbsDg (x : Nat) : DgU (limbs x) := limbs_dg x
section
variable {x y : Nat}
end
end Go.Proofs.YtbbpecfapohlaaaGreatDoor
namespace Go.Proofs.YtbbpecfapohlaaaGreatDoor
open Go.RowKit
-- 2: int64
instance : Sz Tryz.prog 3 false 1 := .mk' (by kernel_rfl)
instance : Sz Tryz.prog 4 false 1 := .mk' (by kernel_rfl)
instance : Zr Tryz.prog 4 [.bool false] := .mk' (by kernel_rfl)
-- 5: uint8
instance : Sz Tryz.prog 5 false 1 := .mk' (by kernel_rfl)
instance : It Tryz.prog 5 .u8 := ⟨by kernel_rfl⟩
-- 7
instance : Sz Tryz.prog 9 false 1 := .mk' (by kernel_rfl)
instance : It Tryz.prog 21 .i32 := ⟨by kernel_rfl⟩
-- 22: []attestlaw09.A
instance : Sl Tryz.prog 26 124 5 88 := ⟨.of (by kernel_rfl) (by kernel_rfl)⟩
-- 27: []atom.Atom
instance : Sz Tryz.prog 31 false 1 := .mk' (by kernel_rfl)
instance : Sl Tryz.prog 36 57 5 88 := ⟨.of (by kernel_rfl) (by kernel_rfl)⟩
-- 40: []attestref09.Atom
instance : Sl Tryz.prog 44 83 5 88 := ⟨.of (by kernel_rfl) (by kernel_rfl)⟩
-- 48: []attestlaw05.N
instance : Sz Tryz.prog 48 false 1 := .mk' (by kernel_rfl)
instance : Sl Tryz.prog 48 112 3 56 := ⟨.of (by kernel_rfl) (by kernel_rfl)⟩
-- 49: []bool
instance : Sz Tryz.prog 49 false 1 := .mk' (by kernel_rfl)
instance : Sl Tryz.prog 49 4 1 1 := ⟨.of (by kernel_rfl) (by kernel_rfl)⟩
-- 51: []attestref05.Rat
instance : Sz Tryz.prog 51 false 1 := .mk' (by kernel_rfl)
instance : Sl Tryz.prog 51 136 3 56 := ⟨.of (by kernel_rfl) (by kernel_rfl)⟩
-- 53: []rat.Rat
instance : Sz Tryz.prog 53 false 1 := .mk' (by kernel_rfl)
instance : Sl Tryz.prog 53 104 3 56 := ⟨.of (by kernel_rfl) (by kernel_rfl)⟩
-- 55: []int
instance : Sz Tryz.prog 55 false 1 := .mk' (by kernel_rfl)
instance : Sl Tryz.prog 55 3 1 8 := ⟨.of (by kernel_rfl) (by kernel_rfl)⟩
-- 56
instance : Sz Tryz.prog 57 true 5 := .mk' (by kernel_rfl)
instance : Zr Tryz.prog 57 [.int .i64 0, .slice none 0 0, .int .i64 0, .slice none 0 0, .slice none 0 0] := .mk' (by kernel_rfl)
instance : Fl Tryz.prog 57 0 0 := .mk' (n := 0) (by kernel_rfl)
instance : Fl Tryz.prog 57 1 1 := .mk' (n := 0) (by kernel_rfl)
instance : Fl Tryz.prog 57 2 2 := .mk' (n := 0) (by kernel_rfl)
instance : Fl Tryz.prog 57 3 3 := .mk' (n := 0) (by kernel_rfl)
instance : Fl Tryz.prog 57 4 4 := .mk' (n := 0) (by kernel_rfl)
instance : Stt Tryz.prog 57 [(0, 1), (1, 1), (2, 1), (3, 1), (4, 1)] := .mk' (by kernel_rfl)
-- 67: []sexp.S
instance : Sz Tryz.prog 67 false 1 := .mk' (by kernel_rfl)
instance : Sl Tryz.prog 67 98 3 48 := ⟨.of (by kernel_rfl) (by kernel_rfl)⟩
-- 73: []attestref12.S
instance : Sz Tryz.prog 73 false 1 := .mk' (by kernel_rfl)
instance : Sl Tryz.prog 73 158 3 48 := ⟨.of (by kernel_rfl) (by kernel_rfl)⟩
-- 82
instance : Sz Tryz.prog 83 true 5 := .mk' (by kernel_rfl)
instance : Zr Tryz.prog 83 [.int .i64 0, .slice none 0 0, .int .i64 0, .slice none 0 0, .slice none 0 0] := .mk' (by kernel_rfl)
instance : Fl Tryz.prog 83 0 0 := .mk' (n := 0) (by kernel_rfl)
instance : Fl Tryz.prog 83 1 1 := .mk' (n := 0) (by kernel_rfl)
instance : Fl Tryz.prog 83 2 2 := .mk' (n := 0) (by kernel_rfl)
instance : Fl Tryz.prog 83 3 3 := .mk' (n := 0) (by kernel_rfl)
instance : Fl Tryz.prog 83 4 4 := .mk' (n := 0) (by kernel_rfl)
instance : Stt Tryz.prog 83 [(0, 1), (1, 1), (2, 1), (3, 1), (4, 1)] := .mk' (by kernel_rfl)
-- 97: struct { Leaf bool; Word string; List []sexp.S }
instance : Sz Tryz.prog 98 true 3 := .mk' (by kernel_rfl)
instance : Zr Tryz.prog 98 [.bool false, .string ⟨#[]⟩, .slice none 0 0] := .mk' (by kernel_rfl)
instance : Fl Tryz.prog 98 0 0 := .mk' (n := 0) (by kernel_rfl)
instance : Fl Tryz.prog 98 1 1 := .mk' (n := 0) (by kernel_rfl)
instance : Fl Tryz.prog 98 2 2 := .mk' (n := 0) (by kernel_rfl)
instance : Stt Tryz.prog 98 [(0, 1), (1, 1), (2, 1)] := .mk' (by kernel_rfl)
-- 101: []lin.Term
instance : Sz Tryz.prog 102 false 1 := .mk' (by kernel_rfl)
instance : Sl Tryz.prog 102 225 1 4 := ⟨.of (by kernel_rfl) (by kernel_rfl)⟩
-- 103: struct { neg bool; num []uint32; den []uint32 }
instance : Sz Tryz.prog 104 true 3 := .mk' (by kernel_rfl)
instance : Zr Tryz.prog 104 [.bool false, .slice none 0 0, .slice none 0 0] := .mk' (by kernel_rfl)
instance : Fl Tryz.prog 104 0 0 := .mk' (n := 0) (by kernel_rfl)
instance : Fl Tryz.prog 104 1 1 := .mk' (n := 0) (by kernel_rfl)
instance : Fl Tryz.prog 104 2 2 := .mk' (n := 0) (by kernel_rfl)
instance : Stt Tryz.prog 104 [(0, 1), (1, 1), (2, 1)] := .mk' (by kernel_rfl)
-- 105: struct { Terms []lin.Term; Const rat.Rat }
instance : Sz Tryz.prog 112 true 3 := .mk' (by kernel_rfl)
instance : Fl Tryz.prog 112 0 0 := .mk' (n := 0) (by kernel_rfl)
instance : Fl Tryz.prog 112 1 1 := .mk' (n := 0) (by kernel_rfl)
instance : Fl Tryz.prog 112 2 2 := .mk' (n := 0) (by kernel_rfl)
instance : Fl Tryz.prog 124 0 0 := .mk' (n := 0) (by kernel_rfl)
instance : Fl Tryz.prog 124 1 1 := .mk' (n := 0) (by kernel_rfl)
instance : Fl Tryz.prog 124 2 2 := .mk' (n := 0) (by kernel_rfl)
instance : Fl Tryz.prog 124 3 3 := .mk' (n := 0) (by kernel_rfl)
instance : Fl Tryz.prog 124 4 4 := .mk' (n := 0) (by kernel_rfl)
instance : Sz Tryz.prog 136 true 3 := .mk' (by kernel_rfl)
instance : Zr Tryz.prog 136 [.bool false, .slice none 0 0, .slice none 0 0] := .mk' (by kernel_rfl)
instance : Fl Tryz.prog 136 0 0 := .mk' (n := 0) (by kernel_rfl)
instance : Fl Tryz.prog 136 1 1 := .mk' (n := 0) (by kernel_rfl)
instance : Fl Tryz.prog 136 2 2 := .mk' (n := 0) (by kernel_rfl)
instance : Stt Tryz.prog 136 [(0, 1), (1, 1), (2, 1)] := .mk' (by kernel_rfl)
-- 138: []attestref08.Term
instance : Sl Tryz.prog 148 151 3 32 := ⟨.of (by kernel_rfl) (by kernel_rfl)⟩
-- 150: struct { Kind uint8; At int; Word string }
instance : Sz Tryz.prog 151 true 3 := .mk' (by kernel_rfl)
instance : Zr Tryz.prog 151 [.int .u8 0, .int .i64 0, .string ⟨#[]⟩] := .mk' (by kernel_rfl)
instance : Fl Tryz.prog 151 0 0 := .mk' (n := 0) (by kernel_rfl)
instance : Fl Tryz.prog 151 1 1 := .mk' (n := 0) (by kernel_rfl)
instance : Stt Tryz.prog 151 [(0, 1), (1, 1), (2, 1)] := .mk' (by kernel_rfl)
-- 152: *sexp.reader
instance : Zr Tryz.prog 154 [.string ⟨#[]⟩, .int .i64 0, .int .i64 0, .int .i64 0, .int .i64 0] := .mk' (by kernel_rfl)
instance : Fl Tryz.prog 154 0 0 := .mk' (n := 0) (by kernel_rfl)
instance : Fl Tryz.prog 154 1 1 := .mk' (n := 0) (by kernel_rfl)
instance : Fl Tryz.prog 154 2 2 := .mk' (n := 0) (by kernel_rfl)
instance : Fl Tryz.prog 154 3 3 := .mk' (n := 0) (by kernel_rfl)
instance : Fl Tryz.prog 154 4 4 := .mk' (n := 0) (by kernel_rfl)
instance : Stt Tryz.prog 154 [(0, 1), (1, 1), (2, 1), (3, 1), (4, 1)] := .mk' (by kernel_rfl)
-- 157: struct { Leaf bool; Word string; List []attestref12.S }
instance : Sz Tryz.prog 158 true 3 := .mk' (by kernel_rfl)
instance : Zr Tryz.prog 158 [.bool false, .string ⟨#[]⟩, .slice none 0 0] := .mk' (by kernel_rfl)
instance : Fl Tryz.prog 158 0 0 := .mk' (n := 0) (by kernel_rfl)
instance : Fl Tryz.prog 158 1 1 := .mk' (n := 0) (by kernel_rfl)
instance : Fl Tryz.prog 158 2 2 := .mk' (n := 0) (by kernel_rfl)
instance : Stt Tryz.prog 158 [(0, 1), (1, 1), (2, 1)] := .mk' (by kernel_rfl)
-- 177: struct { Var int; Coef rat.Rat }
instance : Sl Tryz.prog 196 5 1 1 := ⟨.of (by kernel_rfl) (by kernel_rfl)⟩
-- 218: uint64
instance : It Tryz.prog 218 .u64 := ⟨by kernel_rfl⟩
-- 225: uint32
instance : Sz Tryz.prog 225 false 1 := .mk' (by kernel_rfl)
instance : It Tryz.prog 225 .u32 := ⟨by kernel_rfl⟩
-- 251: []attestref08.Expr
end Go.Proofs.YtbbpecfapohlaaaGreatDoor
