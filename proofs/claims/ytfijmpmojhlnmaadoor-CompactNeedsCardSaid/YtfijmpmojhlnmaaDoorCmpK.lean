/-
  Packages compact and proof's steps by plain data.
-/
import Derived.Test.YtfijmpmojhlnmaaDoorCmpJ
namespace Go.Proofs.YtfijmpmojhlnmaaDoor
open Go.RowKit
attribute [local irreducible] AC Do St
set_option maxRecDepth 100000 in
set_option maxHeartbeats 8000000 in
theorem compF (Y : Ky) (kl : Stp → Lit) (l : List Stp) (h0 : 0 < l.length) (hl : l.length ≤ 300000) (hsm : ∀ s ∈ l, SmS s) (hok : okS l) (hY : KyOK Y kl l) : Fn Tryd.prog 12 [.d (.l (l.map enS))] [.d (.l ((compL kl l).map enS)), .d (.v (.int .i64 0))] := by
  have hsh := shareF Y kl l hl hsm hok hY keyd
  have hS := share_shd (kl := kl) l
  have hokS := share_okS (kl := kl) hok
  have hsmS : ∀ y ∈ (share kl l).1, SmS y := fun y hy => by
    obtain ⟨s, q1, ft, _, rfl⟩ := share_mem y hy
    exact (hsm s q1).mv ft
  have hcomp : compL kl l = (cmL (share kl l).1 (needI (share kl l).1 ((share kl l).2.getD (l.length - 1) 0).toNat)).1 := rfl
  generalize compL kl l = res at hcomp ⊢
  generalize share kl l = a at hsh hS hokS hsmS hcomp
  obtain ⟨out, ft⟩ := a
  obtain ⟨hS1, hS2, _, hS4⟩ := hS
  dsimp only at hsh hokS hsmS hcomp hS1 hS2 hS4
  have hglast : ft[l.length - 1]? = some ft[l.length - 1] := List.getElem?_eq_getElem (by omega)
  obtain ⟨hr0, hr1⟩ := hS4 ft[l.length - 1] (List.getElem_mem (by omega))
  have hD : ft.getD (l.length - 1) 0 = ft[l.length - 1] := by rw [List.getD_eq_getElem?_getD, hglast]; rfl
  rw [hD] at hcomp
  generalize ft[l.length - 1] = last at hglast hr0 hr1 hcomp
  obtain ⟨m, rfl⟩ : ∃ m : Nat, last = (m : Int) := ⟨last.toNat, by omega⟩
  rw [Int.toNat_natCast] at hcomp
  have hneed := needF out (by omega) (fun s h => (hsmS s h).2.2.2) hokS m (by omega)
  have hnm : ∀ k ∈ needI out m, 0 ≤ k ∧ k < (out.length : Int) := fun k hk => by
    have := trues_mem hk
    omega
  have hnl : (needI out m).length ≤ m + 1 := trues_len _ _
  have hcl := cm_len out (needI out m)
  have hcs := fun i k => cm_succ out (nd := needI out m) (i := i) (k := k)
  generalize needI out m = nd at hneed hnm hcomp hnl hcl hcs
  refine Fn.of Tryd.func12 rfl (by kernel_rfl) Tryd.ntmps12 Tryd.results12 rfl fun w0 S0 => ?_
  refine wk ?_
  ((try (first | intro K ms hms hK | intro K hK)); (first | apply Chain.go | apply Chain.goD); exact rfl; exact rfl; refine Loc.callT (hsh) rfl ?_; (repeat (first | exact trivial | refine ⟨.inl rfl, ?_⟩ | refine ⟨.inr rfl, ?_⟩)))
  refine wk ?_
  ((try (first | intro K ms hms hK | intro K hK)); (first | apply Chain.go | apply Chain.goD); exact rfl; exact rfl; exact Loc.idxM (i := l.length - 1) rfl rfl rfl (by omega) hglast rfl)
  refine wk ?_
  ((try (first | intro K ms hms hK | intro K hK)); (first | apply Chain.go | apply Chain.goD); exact rfl; exact rfl; refine Loc.callT (hneed) rfl ?_; (repeat (first | exact trivial | refine ⟨.inl rfl, ?_⟩ | refine ⟨.inr rfl, ?_⟩)))
  refine wk ?_
  ((try (first | intro K ms hms hK | intro K hK)); (first | apply Chain.ef | apply Chain.efD); exact rfl; exact rfl; exact Do.makeM (f := fun v => [.v (.int .i64 v)]) (0 : Int) out.length out.length rfl rfl rfl rfl rfl rfl (Nat.le_refl _) (by omega); exact rfl; exact rfl)
  refine wk ?_
  refine AC.rowVar 9 60 43 5 rfl rfl ?_
  refine AC.loop (X := Nat) (fun i => ⟨[(4, .d (.l (out.map enS))), (9, .r 60 i), (10, .r 40 0), (41, .d (enZ nd)), (42, .d (.v (.int .i64 (nd.length : Int)))), (43, .d (.v (.int .i64 (i : Int))))], [(40, .row 0 3 1 ((cmL out (nd.take i)).2.map fun v => [.v (.int .i64 v)])), (60, .row i 43 5 ((cmL out (nd.take i)).1.map enS))]⟩) (fun i => i ≤ nd.length) (fun i => nd.length - i) 0 (Nat.zero_le _) ⟨rfl, rfl, rfl, rfl, rfl, rfl, trivial⟩ ⟨rfl, rfl, trivial⟩ ?_
  intro i hi
  refine wk ?_
  ((try (first | intro K ms hms hK | intro K hK)); (first | refine Chain.lss rfl rfl rfl rfl rfl (fun h1 => ?_) (fun h1 => ?_) | refine Chain.lssD rfl rfl rfl rfl rfl (fun h1 => ?_) (fun h1 => ?_)))
  · have hi' : i < nd.length := by omega
    have hget : nd[i]? = some nd[i] := List.getElem?_eq_getElem hi'
    obtain ⟨hk0, hk1⟩ := hnm nd[i] (List.getElem_mem hi')
    have hsucc := hcs i _ hget
    obtain ⟨hc1, hc2⟩ := hcl i hi
    generalize nd[i] = k at hget hk0 hk1 hsucc
    have hkl : k.toNat < out.length := by omega
    have hgo : out[k.toNat]? = some out[k.toNat] := List.getElem?_eq_getElem hkl
    have hgD : out.getD k.toNat ⟨0, [], 0, [], []⟩ = out[k.toNat] := by rw [List.getD_eq_getElem?_getD, hgo]; rfl
    obtain ⟨hs1, hs2, hs3, hs4⟩ := hsmS out[k.toNat] (List.getElem_mem hkl)
    have hpr : ∀ j ∈ out[k.toNat].pr, 0 ≤ j ∧ j < (k.toNat : Int) := fun j hj => okTo_pr hokS hgo hj
    unfold cmStep at hsucc
    rw [hgD, hc1] at hsucc
    generalize out[k.toNat] = s at hgo hsucc hs1 hs2 hs3 hs4 hpr
    generalize cmL out (nd.take i) = a at hsucc hc1 hc2 ⊢
    obtain ⟨ro, nw⟩ := a
    dsimp only at hsucc hc1 hc2 ⊢
    have hnwl : (nw.map fun v => [D.v (.int .i64 v)]).length = out.length := by rw [List.length_map]; exact hc2
    have hgw : nw[k.toNat]? = some (nw[k.toNat]'(by omega)) := List.getElem?_eq_getElem _
    refine wk ?_
    ((try (first | intro K ms hms hK | intro K hK)); (first | apply Chain.go | apply Chain.goD); exact rfl; exact rfl; exact Loc.idxR (i := k.toNat) rfl rfl rfl rfl (by omega) (by omega) rfl)
    ((try (first | intro K ms hms hK | intro K hK)); (first | apply Chain.st | apply Chain.stD); exact rfl; exact rfl; exact Do.setM (i : Int) rfl rfl rfl hgw rfl rfl rfl rfl rfl rfl; exact rfl; exact rfl)
    refine wk ?_
    ((try (first | intro K ms hms hK | intro K hK)); (first | apply Chain.go | apply Chain.goD); exact rfl; exact rfl; exact Loc.idxM (i := k.toNat) rfl rfl rfl (by omega) hgo rfl)
    refine wk ?_
    ((try (first | intro K ms hms hK | intro K hK)); (first | apply Chain.ef | apply Chain.efD); exact rfl; exact rfl; (refine Do.callKr (copiedF s (nw.set k.toNat (i : Int)) (by omega) (by omega) (by omega) (fun j hj => by have := hpr j hj; rw [List.length_set]; omega)) rfl rfl rfl rfl ?_ ?_ <;> (first | exact trivial | repeat (first | exact trivial | refine ⟨.inl rfl, ?_⟩ | refine ⟨.inr rfl, ?_⟩))); exact rfl; exact rfl)
    refine wk ?_
    refine ⟨i + 1, by omega, by omega, ⟨rfl, rfl, rfl, rfl, rfl, rfl, trivial⟩, ⟨by rw [hsucc]; rfl, by rw [hsucc]; simp only [List.map_append]; rfl, trivial⟩⟩
  · obtain rfl : i = nd.length := by omega
    rw [List.take_length, ← hcomp]
    refine wk ?_
    exact ⟨.d rfl ⟨_, _, rfl⟩, .d rfl (.inl rfl), trivial⟩
end Go.Proofs.YtfijmpmojhlnmaaDoor
