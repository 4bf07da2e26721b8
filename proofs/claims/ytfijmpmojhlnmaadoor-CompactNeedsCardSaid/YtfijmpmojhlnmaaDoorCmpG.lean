/-
  Packages compact and proof's steps by plain data.
-/
import Derived.Test.YtfijmpmojhlnmaaDoorCmpF
namespace Go.Proofs.YtfijmpmojhlnmaaDoor
open Go.RowKit
attribute [local irreducible] AC Do St
set_option maxRecDepth 100000 in
set_option maxHeartbeats 4000000 in
theorem cloneZR (l : List Int) (hlen : l.length ≤ 1000000000) : FnRow Tryd.prog 26 [.d (enZ l)] 3 1 (l.map fun v => [.v (.int .i64 v)]) := by
  show FnRow Tryd.prog 26 [.d (.l (l.map fun v => [.v (.int .i64 v)]))] 3 1 _
  have hk := enZ_one l
  have hl : (l.map fun v => [D.v (.int .i64 v)]).length ≤ 1000000000 := by simpa using hlen
  generalize (l.map fun v => [D.v (.int .i64 v)]) = xs at hk hl
  refine FnRow.of Tryd.func26 rfl (by kernel_rfl) Tryd.ntmps26 Tryd.results26 rfl fun w0 S0 => ?_
  refine wk ?_
  (first | intro K ms hms hK | intro K hK)
  refine Chain.eqN rfl rfl rfl rfl (fun h u => ?_) (fun u => ?_)
  · subst h
    (repeat (first
      | refine Chain.no rfl rfl ?_
      | refine Chain.noD rfl rfl ?_
      | ((first | apply Chain.go | apply Chain.goD); exact rfl; exact rfl; first
        | exact Loc.move (v := .d _) rfl rfl
        | exact Loc.assign (v := .d _) rfl rfl
        | exact Loc.loadP1 rfl rfl rfl rfl
        | exact Loc.loadQ1 rfl rfl rfl
        | exact Loc.fieldP rfl rfl rfl
        | exact Loc.fieldQ rfl rfl
        | exact Loc.pickT (v := .d _) rfl rfl rfl
        | exact Loc.pickF (v := .d _) rfl rfl rfl
        | exact Loc.loadPn rfl rfl rfl rfl (by kernel_rfl)
        | exact Loc.loadQw rfl rfl rfl
        | exact Loc.loadQn rfl rfl rfl rfl
        | exact Loc.idxM rfl rfl rfl rfl (by assumption) rfl
        | exact Loc.lenM rfl rfl
        | exact Loc.lenN rfl rfl
        | exact Loc.lenR rfl rfl rfl
        | exact Loc.len rfl rfl
        | exact Loc.lssT rfl rfl rfl (by omega)
        | exact Loc.lssF rfl rfl rfl (by omega)
        | exact Loc.eqlT rfl rfl rfl (by omega)
        | exact Loc.eqlF rfl rfl rfl (by omega)
        | exact Loc.neqT rfl rfl rfl (by omega)
        | exact Loc.neqF rfl rfl rfl (by omega)
        | exact Loc.gtrT rfl rfl rfl (by omega)
        | exact Loc.gtrF rfl rfl rfl (by omega)
        | exact Loc.geqT rfl rfl rfl (by omega)
        | exact Loc.geqF rfl rfl rfl (by omega)
        | exact Loc.leqT rfl rfl rfl (by omega)
        | exact Loc.leqF rfl rfl rfl (by omega)
        | exact Loc.add rfl rfl rfl (IntWalk.i64_in _ (by omega))
        | exact Loc.sub rfl rfl rfl (IntWalk.i64_in _ (by omega))
        | exact Loc.notT rfl rfl
        | exact Loc.notF rfl rfl
        | exact Loc.fieldE rfl rfl rfl
        | exact Loc.loadE1 rfl rfl rfl (by assumption) rfl
        | exact Loc.idxR rfl rfl rfl rfl rfl (by omega) rfl
        | exact Loc.move (v := .g _) rfl rfl
        | exact Loc.move (v := .p _ _) rfl rfl
        | exact Loc.move (v := .r _ _) rfl rfl
        | exact Loc.move (v := .t _) rfl rfl
        | exact Loc.assign (v := .g _) rfl rfl
        | exact Loc.assign (v := .r _ _) rfl rfl
        | exact Loc.assign (v := .p _ _) rfl rfl
        | exact Loc.extract (v := .d _) rfl rfl rfl rfl
        | exact Loc.extract (v := .g _) rfl rfl rfl rfl
        | exact Loc.pickT (v := .g _) rfl rfl rfl
        | exact Loc.pickF (v := .g _) rfl rfl rfl
        | exact Loc.move (v := .un) rfl rfl
        | exact Loc.build rfl rfl rfl rfl
        | exact Loc.litP rfl rfl rfl rfl rfl rfl rfl)
      | refine Chain.nil0 (hK _ ?_)
      | ((first | apply Chain.st | apply Chain.stD); exact rfl; exact rfl; (first
        | exact Do.storeP rfl rfl rfl rfl .g rfl rfl rfl
        | exact Do.storeP rfl rfl rfl rfl .d rfl rfl rfl
        | exact Do.storeP rfl rfl rfl rfl (.r rfl) rfl rfl rfl); exact rfl; exact rfl)
      | ((first | apply Chain.ef | apply Chain.efD); exact rfl; exact rfl; (first
        | exact Do.alloc rfl rfl rfl
        | exact Do.box rfl rfl rfl .g rfl
        | exact Do.box rfl rfl rfl .d rfl
        | exact Do.lit0 rfl rfl
        | exact Do.append1 rfl rfl rfl rfl rfl rfl (by first | omega | (simp; omega))
        | exact Do.appendN1 rfl rfl rfl rfl rfl rfl); exact rfl; exact rfl)
      | refine Chain.nilD (by rw [hms]; kernel_rfl) (hK _ ?_)
      | refine Chain.noN rfl rfl ?_))
    refine AC.condT rfl ?_
    refine AC.seq ?_
    refine AC.reg (by decide +kernel) ?_
    (first | intro K ms hms hK | intro K hK)
    (repeat (first
      | refine Chain.no rfl rfl ?_
      | refine Chain.noD rfl rfl ?_
      | ((first | apply Chain.go | apply Chain.goD); exact rfl; exact rfl; first
        | exact Loc.move (v := .d _) rfl rfl
        | exact Loc.assign (v := .d _) rfl rfl
        | exact Loc.loadP1 rfl rfl rfl rfl
        | exact Loc.loadQ1 rfl rfl rfl
        | exact Loc.fieldP rfl rfl rfl
        | exact Loc.fieldQ rfl rfl
        | exact Loc.pickT (v := .d _) rfl rfl rfl
        | exact Loc.pickF (v := .d _) rfl rfl rfl
        | exact Loc.loadPn rfl rfl rfl rfl (by kernel_rfl)
        | exact Loc.loadQw rfl rfl rfl
        | exact Loc.loadQn rfl rfl rfl rfl
        | exact Loc.idxM rfl rfl rfl rfl (by assumption) rfl
        | exact Loc.lenM rfl rfl
        | exact Loc.lenN rfl rfl
        | exact Loc.lenR rfl rfl rfl
        | exact Loc.len rfl rfl
        | exact Loc.lssT rfl rfl rfl (by omega)
        | exact Loc.lssF rfl rfl rfl (by omega)
        | exact Loc.eqlT rfl rfl rfl (by omega)
        | exact Loc.eqlF rfl rfl rfl (by omega)
        | exact Loc.neqT rfl rfl rfl (by omega)
        | exact Loc.neqF rfl rfl rfl (by omega)
        | exact Loc.gtrT rfl rfl rfl (by omega)
        | exact Loc.gtrF rfl rfl rfl (by omega)
        | exact Loc.geqT rfl rfl rfl (by omega)
        | exact Loc.geqF rfl rfl rfl (by omega)
        | exact Loc.leqT rfl rfl rfl (by omega)
        | exact Loc.leqF rfl rfl rfl (by omega)
        | exact Loc.add rfl rfl rfl (IntWalk.i64_in _ (by omega))
        | exact Loc.sub rfl rfl rfl (IntWalk.i64_in _ (by omega))
        | exact Loc.notT rfl rfl
        | exact Loc.notF rfl rfl
        | exact Loc.fieldE rfl rfl rfl
        | exact Loc.loadE1 rfl rfl rfl (by assumption) rfl
        | exact Loc.idxR rfl rfl rfl rfl rfl (by omega) rfl
        | exact Loc.move (v := .g _) rfl rfl
        | exact Loc.move (v := .p _ _) rfl rfl
        | exact Loc.move (v := .r _ _) rfl rfl
        | exact Loc.move (v := .t _) rfl rfl
        | exact Loc.assign (v := .g _) rfl rfl
        | exact Loc.assign (v := .r _ _) rfl rfl
        | exact Loc.assign (v := .p _ _) rfl rfl
        | exact Loc.extract (v := .d _) rfl rfl rfl rfl
        | exact Loc.extract (v := .g _) rfl rfl rfl rfl
        | exact Loc.pickT (v := .g _) rfl rfl rfl
        | exact Loc.pickF (v := .g _) rfl rfl rfl
        | exact Loc.move (v := .un) rfl rfl
        | exact Loc.build rfl rfl rfl rfl
        | exact Loc.litP rfl rfl rfl rfl rfl rfl rfl)
      | refine Chain.nil0 (hK _ ?_)
      | ((first | apply Chain.st | apply Chain.stD); exact rfl; exact rfl; (first
        | exact Do.storeP rfl rfl rfl rfl .g rfl rfl rfl
        | exact Do.storeP rfl rfl rfl rfl .d rfl rfl rfl
        | exact Do.storeP rfl rfl rfl rfl (.r rfl) rfl rfl rfl); exact rfl; exact rfl)
      | ((first | apply Chain.ef | apply Chain.efD); exact rfl; exact rfl; (first
        | exact Do.alloc rfl rfl rfl
        | exact Do.box rfl rfl rfl .g rfl
        | exact Do.box rfl rfl rfl .d rfl
        | exact Do.lit0 rfl rfl
        | exact Do.append1 rfl rfl rfl rfl rfl rfl (by first | omega | (simp; omega))
        | exact Do.appendN1 rfl rfl rfl rfl rfl rfl); exact rfl; exact rfl)
      | refine Chain.nilD (by rw [hms]; kernel_rfl) (hK _ ?_)
      | refine Chain.noN rfl rfl ?_))
    refine AC.rowVar 2 7 3 1 rfl rfl ?_
    refine wk ?_
    exact ⟨2, 7, 0, rfl, rfl, rfl⟩
  · refine wk ?_
    ((try (first | intro K ms hms hK | intro K hK)); (first | apply Chain.ef | apply Chain.efD); exact rfl; exact rfl; exact Do.append rfl rfl rfl rfl rfl hk (by simp; omega); exact rfl; exact rfl)
    refine wk ?_
    exact ⟨2, 5, 1, rfl, rfl, rfl⟩
set_option maxRecDepth 100000 in
set_option maxHeartbeats 4000000 in
theorem cloneZ (l : List Int) (hlen : l.length ≤ 1000000000) : Fn Tryd.prog 26 [.d (enZ l)] [.d (enZ l)] := by
  show Fn Tryd.prog 26 [.d (.l (l.map fun v => [.v (.int .i64 v)]))] [.d (.l (l.map fun v => [.v (.int .i64 v)]))]
  have hk := enZ_one l
  have hl : (l.map fun v => [D.v (.int .i64 v)]).length ≤ 1000000000 := by simpa using hlen
  generalize (l.map fun v => [D.v (.int .i64 v)]) = xs at hk hl
  refine Fn.of Tryd.func26 rfl (by kernel_rfl) Tryd.ntmps26 Tryd.results26 rfl fun w0 S0 => ?_
  refine wk ?_
  (first | intro K ms hms hK | intro K hK)
  refine Chain.eqN rfl rfl rfl rfl (fun h u => ?_) (fun u => ?_)
  · subst h
    refine wk ?_
    exact ⟨.d rfl (.inr rfl), trivial⟩
  · refine wk ?_
    ((try (first | intro K ms hms hK | intro K hK)); (first | apply Chain.ef | apply Chain.efD); exact rfl; exact rfl; exact Do.append rfl rfl rfl rfl rfl hk (by simp; omega); exact rfl; exact rfl)
    refine wk ?_
    exact ⟨.d rfl ⟨_, _, rfl⟩, trivial⟩
set_option maxRecDepth 100000 in
set_option maxHeartbeats 4000000 in
theorem cloneR (l : List Rat) (hlen : l.length ≤ 1000000000) : Fn Tryd.prog 27 [.d (.l (l.map enR))] [.d (.l (l.map enR))] := by
  have hk : ∀ c ∈ l.map enR, c.length = 3 := fun c hc => by obtain ⟨t, _, rfl⟩ := List.mem_map.1 hc; rfl
  have hl : (l.map enR).length ≤ 1000000000 := by simpa using hlen
  generalize l.map enR = xs at hk hl
  refine Fn.of Tryd.func27 rfl (by kernel_rfl) Tryd.ntmps27 Tryd.results27 rfl fun w0 S0 => ?_
  refine wk ?_
  (first | intro K ms hms hK | intro K hK)
  refine Chain.eqN rfl rfl rfl rfl (fun h u => ?_) (fun u => ?_)
  · subst h
    refine wk ?_
    exact ⟨.d rfl (.inr rfl), trivial⟩
  · refine wk ?_
    ((try (first | intro K ms hms hK | intro K hK)); (first | apply Chain.ef | apply Chain.efD); exact rfl; exact rfl; exact Do.append rfl rfl rfl rfl rfl hk (by simp; omega); exact rfl; exact rfl)
    refine wk ?_
    exact ⟨.d rfl ⟨_, _, rfl⟩, trivial⟩
set_option maxRecDepth 100000 in
set_option maxHeartbeats 4000000 in
theorem joinNil (s : ByteArray) : Fn Tryd.prog 30 [.d (.l []), .d (.v (.string s))] [.d (.v (.string ⟨#[]⟩))] := by
  refine Fn.of Tryd.func30 rfl (by kernel_rfl) Tryd.ntmps30 Tryd.results30 rfl fun w0 S0 => ?_
  refine wk ?_
  ((try (first | intro K ms hms hK | intro K hK)); (first | apply Chain.go | apply Chain.goD); exact rfl; exact rfl; exact Loc.eqlT rfl rfl rfl rfl)
  refine wk ?_
  exact ⟨.d rfl (.inl rfl), trivial⟩
end Go.Proofs.YtfijmpmojhlnmaaDoor
