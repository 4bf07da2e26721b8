/-
  The law's own functions (attestlaw05, attestlaw08) by plain data.
-/
import Derived.Test.YtfijmpmojhlnmaaGreatDoorBr
import Derived.Test.YtfijmpmojhlnmaaGreatDoorTy
namespace Go.Proofs.YtfijmpmojhlnmaaGreatDoor
open Go.RowKit
attribute [local irreducible] AC Do St
theorem copyU (l : List Nat) (hl : l.length ≤ 1000000000) (hd : ∀ x ∈ l, x < 4294967296) : Fn Tryz.prog 104 [.d (enL l)] [.d (enL l)] :=
  ⟨⟨_, Tryz.func104, by kernel_rfl, by kernel_rfl⟩, fun S w vs hS hv => by
    obtain ⟨u, rfl, ha⟩ := hv.one
    have q1 := oneU.ofRD (RD.mono ha hS) hd
    obtain ⟨a1, c1, e1, _⟩ := id q1
    injection e1 with e1
    subst e1
    refine (copyU_any l a1 _ c1 w q1 hl).mono ?_
    rintro e w' ⟨a, c, rfl, hx, hr⟩
    exact ⟨_, rfl, hx, RD.mono (oneU.toRD (fun _ => rfl) hr) mo_res⟩⟩
def enN (n : Bool × List Nat × List Nat) : List D := [.v (.bool n.1), enL n.2.1, enL n.2.2]
def okN (n : Bool × List Nat × List Nat) : Prop := (∀ x ∈ n.2.1, x < 4294967296) ∧ (∀ x ∈ n.2.2, x < 4294967296)
def nQ (n : Bool × List Nat × List Nat) : Rat := numQ n.1 n.2.1 n.2.2
theorem bits_8 {l : List Nat} (h : ∀ y ∈ l, y < 4294967296) (hl : l.length ≤ 8) : (bits (dval 4294967296 l)).length ≤ 100000000 := by
  have h1 : dval 4294967296 l < 4294967296 ^ l.length := dval_lt h
  have h2 : 4294967296 ^ l.length ≤ 4294967296 ^ 8 := Nat.pow_le_pow_right (by decide) hl
  have h3 : (4294967296 : Nat) ^ 8 = 2 ^ 256 := by decide
  have := bits_len_le (k := 256) (show dval 4294967296 l < 2 ^ 256 by omega)
  omega
set_option maxRecDepth 100000 in
set_option maxHeartbeats 1000000 in
theorem both (n : Bool × List Nat × List Nat) (hn : okN n) : Fn Tryz.prog 72 [.g (enN n)] [.g (enR (nQ n)), .g (enQ (nQ n))] := by
  obtain ⟨nb, x, d⟩ := n
  obtain ⟨hx, hd⟩ := hn
  simp only at hx hd
  have hx8 : ∀ y ∈ x.take 8, y < 4294967296 := fun y hy => hx y (List.mem_of_mem_take hy)
  have hd8 : ∀ y ∈ d.take 8, y < 4294967296 := fun y hy => hd y (List.mem_of_mem_take hy)
  have lx : (x.take 8).length ≤ 8 := by simp; omega
  have ld : (d.take 8).length ≤ 8 := by simp; omega
  have bx : (bits (dval 4294967296 (x.take 8))).length ≤ 100000000 := bits_8 hx8 lx
  refine Fn.of Tryz.func72 rfl (by kernel_rfl) Tryz.ntmps72 Tryz.results72 rfl fun w0 S0 => ?_
  refine wk ?_
  (first | intro K ms hms hK | intro K hK)
  ((first | apply Chain.go | apply Chain.goD); exact rfl; exact rfl; refine Loc.callD (few x hx) rfl ?_; (repeat (first | exact trivial | refine ⟨.inl rfl, ?_⟩ | refine ⟨.inr rfl, ?_⟩)))
  refine wk ?_
  ((first | apply Chain.go | apply Chain.goD); exact rfl; exact rfl; refine Loc.callD (few d hd) rfl ?_; (repeat (first | exact trivial | refine ⟨.inl rfl, ?_⟩ | refine ⟨.inr rfl, ?_⟩)))
  refine wk ?_
  (first | intro K ms hms hK | intro K hK)
  ((first | apply Chain.go | apply Chain.goD); exact rfl; exact rfl; refine Loc.callD (bitsOf (d.take 8) (by omega) hd8) rfl ?_; (repeat (first | exact trivial | refine ⟨.inl rfl, ?_⟩ | refine ⟨.inr rfl, ?_⟩)))
  refine wk ?_
  have h0 : dval 4294967296 (d.take 8) = 0 ∨ dval 4294967296 (d.take 8) ≠ 0 := by omega
  rcases h0 with h0 | h0
  · have hb : barL d = [1] := by unfold barL; rw [if_pos h0]
    have hl : (bits (dval 4294967296 (d.take 8))).length = 0 := by rw [h0, bits_eq_nil.2 rfl]; rfl
    have hq : nQ (nb, x, d) = mkRat (sgn nb (dval 4294967296 (x.take 8))) (dval 4294967296 [1]) := by unfold nQ numQ; rw [hb]
    refine wk ?_
    (first | intro K ms hms hK | intro K hK)
    ((first | apply Chain.go | apply Chain.goD); exact rfl; exact rfl; refine Loc.callD (copyU (x.take 8) (by omega) hx8) rfl ?_; (repeat (first | exact trivial | refine ⟨.inl rfl, ?_⟩ | refine ⟨.inr rfl, ?_⟩)))
    refine wk ?_
    ((first | apply Chain.go | apply Chain.goD); exact rfl; exact rfl; refine Loc.callD (copyU [1] (by simp) (by simp)) rfl ?_; (repeat (first | exact trivial | refine ⟨.inl rfl, ?_⟩ | refine ⟨.inr rfl, ?_⟩)))
    refine wk ?_
    ((first | apply Chain.go | apply Chain.goD); exact rfl; exact rfl; refine Loc.callT (ratMake nb (x.take 8) [1] (by omega) (by simp) (by decide) hx8 (by simp)) rfl ?_; (repeat (first | exact trivial | refine ⟨.inl rfl, ?_⟩ | refine ⟨.inr rfl, ?_⟩)))
    refine wk ?_
    (first | intro K ms hms hK | intro K hK)
    ((first | apply Chain.go | apply Chain.goD); exact rfl; exact rfl; refine Loc.callD (bitsOf (x.take 8) (by omega) hx8) rfl ?_; (repeat (first | exact trivial | refine ⟨.inl rfl, ?_⟩ | refine ⟨.inr rfl, ?_⟩)))
    refine wk ?_
    ((first | apply Chain.go | apply Chain.goD); exact rfl; exact rfl; refine Loc.callD (bitsOf [1] (by simp) (by simp)) rfl ?_; (repeat (first | exact trivial | refine ⟨.inl rfl, ?_⟩ | refine ⟨.inr rfl, ?_⟩)))
    refine wk ?_
    ((first | apply Chain.go | apply Chain.goD); exact rfl; exact rfl; refine Loc.callG (qOf nb (dval 4294967296 (x.take 8)) (dval 4294967296 [1]) bx (bits_8 (by simp) (by simp)) (by decide)) rfl ?_; (repeat (first | exact trivial | refine ⟨.inl rfl, ?_⟩ | refine ⟨.inr rfl, ?_⟩)))
    refine wk ?_
    rw [hq]
    exact ⟨.cn rfl rfl inferInstance rfl ⟨.inl rfl, .inl rfl, .inl rfl, trivial⟩, .cn rfl rfl inferInstance rfl ⟨.inl rfl, .inl rfl, .inl rfl, trivial⟩, trivial⟩
  · have hb : barL d = d.take 8 := by unfold barL; rw [if_neg h0]
    have hl : 0 < (bits (dval 4294967296 (d.take 8))).length := List.length_pos_iff.2 (fun e => h0 (bits_eq_nil.1 e))
    have hq : nQ (nb, x, d) = mkRat (sgn nb (dval 4294967296 (x.take 8))) (dval 4294967296 (d.take 8)) := by unfold nQ numQ; rw [hb]
    refine wk ?_
    (first | intro K ms hms hK | intro K hK)
    ((first | apply Chain.go | apply Chain.goD); exact rfl; exact rfl; refine Loc.callD (copyU (x.take 8) (by omega) hx8) rfl ?_; (repeat (first | exact trivial | refine ⟨.inl rfl, ?_⟩ | refine ⟨.inr rfl, ?_⟩)))
    refine wk ?_
    ((first | apply Chain.go | apply Chain.goD); exact rfl; exact rfl; refine Loc.callD (copyU (d.take 8) (by omega) hd8) rfl ?_; (repeat (first | exact trivial | refine ⟨.inl rfl, ?_⟩ | refine ⟨.inr rfl, ?_⟩)))
    refine wk ?_
    ((first | apply Chain.go | apply Chain.goD); exact rfl; exact rfl; refine Loc.callT (ratMake nb (x.take 8) (d.take 8) (by omega) (by omega) (by omega) hx8 hd8) rfl ?_; (repeat (first | exact trivial | refine ⟨.inl rfl, ?_⟩ | refine ⟨.inr rfl, ?_⟩)))
    refine wk ?_
    (first | intro K ms hms hK | intro K hK)
    ((first | apply Chain.go | apply Chain.goD); exact rfl; exact rfl; refine Loc.callD (bitsOf (x.take 8) (by omega) hx8) rfl ?_; (repeat (first | exact trivial | refine ⟨.inl rfl, ?_⟩ | refine ⟨.inr rfl, ?_⟩)))
    refine wk ?_
    ((first | apply Chain.go | apply Chain.goD); exact rfl; exact rfl; refine Loc.callD (bitsOf (d.take 8) (by omega) hd8) rfl ?_; (repeat (first | exact trivial | refine ⟨.inl rfl, ?_⟩ | refine ⟨.inr rfl, ?_⟩)))
    refine wk ?_
    ((first | apply Chain.go | apply Chain.goD); exact rfl; exact rfl; refine Loc.callG (qOf nb (dval 4294967296 (x.take 8)) (dval 4294967296 (d.take 8)) bx (bits_8 hd8 (by omega)) (by omega)) rfl ?_; (repeat (first | exact trivial | refine ⟨.inl rfl, ?_⟩ | refine ⟨.inr rfl, ?_⟩)))
    refine wk ?_
    rw [hq]
    exact ⟨.cn rfl rfl inferInstance rfl ⟨.inl rfl, .inl rfl, .inl rfl, trivial⟩, .cn rfl rfl inferInstance rfl ⟨.inl rfl, .inl rfl, .inl rfl, trivial⟩, trivial⟩
end Go.Proofs.YtfijmpmojhlnmaaGreatDoor
