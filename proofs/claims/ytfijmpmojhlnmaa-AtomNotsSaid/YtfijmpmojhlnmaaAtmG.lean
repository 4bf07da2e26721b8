/-
  AtomMeans, AtomNots: what their functions compute, by plain data.
-/
import Derived.Test.YtfijmpmojhlnmaaAtmF
namespace Go.Proofs.Ytfijmpmojhlnmaa
open Go.RowKit
attribute [local irreducible] AC Do St
theorem scale_sm {N k B : Nat} {e : Ex} (h : Sm N k e) (hB : (N + 1) * (1 + k + 1) ≤ B) : Sm N B (scaleE (-1) e) := by
  have hm1 : Bd 1 (-1 : Rat) := ⟨by decide, by decide⟩
  have hkB : 1 + k + 1 ≤ B := Nat.le_trans (Nat.le_mul_of_pos_left _ (by omega)) hB
  refine ⟨(hm1.mul h.c).mono (by omega), fun t ht => ?_, ?_⟩
  · refine (canL_bd (k := 1 + k) (fun u hu => ?_) t ht).mono ?_
    · obtain ⟨x, hx, rfl⟩ := List.mem_map.1 hu
      exact hm1.mul (h.t x hx)
    · rw [List.length_map]
      exact Nat.le_trans (Nat.mul_le_mul_right _ (by have := h.n; omega)) hB
  · refine Nat.le_trans (canL_spec _).2.2 ?_
    rw [List.length_map]; exact h.n
theorem can_sm {N k B : Nat} {e : Ex} (h : Sm N k e) (hB : (N + 1) * (k + 1) ≤ B) : Sm N B ⟨canL e.t, e.c⟩ := by
  have hkB : k + 1 ≤ B := Nat.le_trans (Nat.le_mul_of_pos_left _ (by omega)) hB
  refine ⟨h.c.mono (by omega), fun t ht => (canL_bd h.t t ht).mono (Nat.le_trans (Nat.mul_le_mul_right _ (by have := h.n; omega)) hB), Nat.le_trans (canL_spec _).2.2 h.n⟩
theorem means_neg (e : Ex) : Means (scaleE (-1) e) ((-1 : Int) : Rat) e ((0 : Int) : Rat) e := by
  have e1 : ((-1 : Int) : Rat) = -1 := rfl
  have e0 : ((0 : Int) : Rat) = 0 := rfl
  rw [e1, e0]
  refine ⟨(canL_spec _).1, ?_, fun v => ?_⟩
  · show -1 * e.c = _
    grind
  · have : coef (scaleE (-1) e).t v = -1 * coef e.t v := by
      unfold scaleE
      rw [(canL_spec _).2.1]
      exact coef_map _ _ _
    rw [this]; grind
theorem means_can (e : Ex) : Means ⟨canL e.t, e.c⟩ ((1 : Int) : Rat) e ((0 : Int) : Rat) e := by
  have e1 : ((1 : Int) : Rat) = 1 := rfl
  have e0 : ((0 : Int) : Rat) = 0 := rfl
  rw [e1, e0]
  refine ⟨(canL_spec _).1, ?_, fun v => ?_⟩
  · show e.c = _
    grind
  · show coef (canL e.t) v = _
    rw [(canL_spec _).2.1]; grind
theorem meansS {N k : Nat} {got a b : Ex} {p q : Rat} (h : Means got p a q b) (hg : Sm N k got) (ha : Sm N k a) (hb : Sm N k b) (hp : Bd k p) (hq : Bd k q) (hk : 8 * ((N + 2) * (k + 1)) ≤ 8000000) :
    Fn Try.prog 14 [.g (enEQ got), .g (enQ p), .g (enEQ a), .g (enQ q), .g (enEQ b)] [.d (.v (.bool true))] :=
  meansQ got p a q b N k hg ha hb hp hq hk true ⟨fun _ => h, fun _ => rfl⟩
def anyP (l : List At) (i : Nat) (p : List Rat) : Bool := (l.take i).any (fun b => sayB b.op (b.e.c + evalT p b.e.t))
theorem anyP_succ {l : List At} {i : Nat} {b : At} (h : l[i]? = some b) (p : List Rat) : anyP l (i + 1) p = (anyP l i p || atP b p) := by
  obtain ⟨h1, h2⟩ := List.getElem?_eq_some_iff.1 h
  unfold anyP
  rw [List.take_succ_eq_append_getElem h1, List.any_append, h2]
  simp [atP]
theorem anyP_all {a : At} (ho : okOp a.op) (p : List Rat) {i : Nat} (hi : (notL a).length ≤ i) : anyP (notL a) i p = !atP a p := by
  unfold anyP
  rw [List.take_of_length_le hi, not_says a ho p]
  rfl
set_option maxRecDepth 100000 in
set_option maxHeartbeats 4000000 in
theorem notsNo (a : AN) (pt : List (Bool × List Nat × List Nat)) (ha : okEN a.e) (ho : ¬ okOp a.op) : Fn Try.prog 5 [.g (enAN a), .d (.l (pt.map enN))] [.d (.v (.bool true))] := by
  refine Fn.of Try.func5 rfl (by kernel_rfl) Try.ntmps5 Try.results5 rfl fun w0 S0 => ?_
  refine wk ?_
  ((try (first | intro K ms hms hK | intro K hK)); (first | apply Chain.go | apply Chain.goD); exact rfl; exact rfl; refine Loc.callG (ofA a ha) rfl ?_; (repeat (first | exact trivial | refine ⟨.inl rfl, ?_⟩ | refine ⟨.inr rfl, ?_⟩)))
  ((try (first | intro K ms hms hK | intro K hK)); (first | apply Chain.go | apply Chain.goD); exact rfl; exact rfl; refine Loc.callT (notNo (atN a) ho) rfl ?_; (repeat (first | exact trivial | refine ⟨.inl rfl, ?_⟩ | refine ⟨.inr rfl, ?_⟩)))
  refine wk ?_
  ((try (first | intro K ms hms hK | intro K hK)); (first | apply Chain.go | apply Chain.goD); exact rfl; exact rfl; refine Loc.callD (goodN a ho) rfl ?_; (repeat (first | exact trivial | refine ⟨.inl rfl, ?_⟩ | refine ⟨.inr rfl, ?_⟩)))
  refine wk ?_
  ((try (first | intro K ms hms hK | intro K hK)); (first | apply Chain.go | apply Chain.goD); exact rfl; exact rfl; refine Loc.callD (awake9) rfl ?_; (repeat (first | exact trivial | refine ⟨.inl rfl, ?_⟩ | refine ⟨.inr rfl, ?_⟩)))
  refine wk ?_
  ((try (first | intro K ms hms hK | intro K hK)); (first | apply Chain.go | apply Chain.goD); exact rfl; exact rfl; exact Loc.eqlT rfl rfl rfl rfl)
  refine wk ?_
  exact ⟨.d rfl (.inl rfl), trivial⟩
set_option maxRecDepth 100000 in
set_option maxHeartbeats 4000000 in
theorem nots1 (a : AN) (pt : List (Bool × List Nat × List Nat)) (ha : okEN a.e) (hp : okP pt) (ho : okOp a.op) (h : a.op = 1) : Fn Try.prog 5 [.g (enAN a), .d (.l (pt.map enN))] [.d (.v (.bool true))] := by
  have hs := atN_sm a ha
  have hn := hs.n
  have hs' : Sm 12 3354 (atN a).e := hs.mono (by omega) (by omega)
  have hnot := notF (atN a) 256 ho hs.c hs.t (Nat.le_trans (Nat.mul_le_mul_right _ (by omega : _ ≤ 14)) (by omega))
  have hh := holdsP (atN a) (ptN pt) hs ho (ptN_bd hp) (by omega) (by omega)
  have b1 : Bd 3354 ((-1 : Int) : Rat) := Bd.mono (k := 1) ⟨by decide, by decide⟩ (by omega)
  have b2 : Bd 3354 ((1 : Int) : Rat) := Bd.mono (k := 1) ⟨by decide, by decide⟩ (by omega)
  have b0 : Bd 3354 ((0 : Int) : Rat) := Bd.mono (k := 1) ⟨by decide, by decide⟩ (by omega)
  have hm1 := meansS (means_neg (atN a).e) (scale_sm hs (by omega)) hs' hs' b1 b0 (by omega)
  have hfin := fun i => anyP_all (a := atN a) ho (ptN pt) (i := i)
  have hnl : notL (atN a) = [⟨(scaleE (-1) (atN a).e), 2⟩] := by unfold notL; rw [if_pos (by exact h)]
  have hlen : (notL (atN a)).length = 1 := by rw [hnl]; rfl
  obtain ⟨c0, hg0, ho0, he0⟩ : ∃ b : At, (notL (atN a))[0]? = some b ∧ b.op = 2 ∧ b.e = (scaleE (-1) (atN a).e) := ⟨⟨(scaleE (-1) (atN a).e), 2⟩, by rw [hnl]; rfl, rfl, rfl⟩
  have hsc0 : Sm 12 3354 c0.e := by rw [he0]; exact scale_sm hs (by omega)
  have hall : ∀ b ∈ notL (atN a), okOp b.op ∧ Sm 12 3354 b.e := by
    intro b hb
    obtain ⟨i, hi, hb⟩ := List.getElem_of_mem hb
    have hb := hb ▸ List.getElem?_eq_getElem hi
    rw [hlen] at hi
    obtain rfl : i = 0 := by omega
    rw [hg0] at hb
    obtain rfl := Option.some.inj hb
    exact ⟨⟨by omega, by omega⟩, hsc0⟩
  rw [← he0] at hm1
  clear hnl
  generalize notL (atN a) = l at *
  refine Fn.of Try.func5 rfl (by kernel_rfl) Try.ntmps5 Try.results5 rfl fun w0 S0 => ?_
  refine wk ?_
  ((try (first | intro K ms hms hK | intro K hK)); (first | apply Chain.go | apply Chain.goD); exact rfl; exact rfl; refine Loc.callG (ofA a ha) rfl ?_; (repeat (first | exact trivial | refine ⟨.inl rfl, ?_⟩ | refine ⟨.inr rfl, ?_⟩)))
  ((try (first | intro K ms hms hK | intro K hK)); (first | apply Chain.go | apply Chain.goD); exact rfl; exact rfl; refine Loc.callT (hnot) rfl ?_; (repeat (first | exact trivial | refine ⟨.inl rfl, ?_⟩ | refine ⟨.inr rfl, ?_⟩)))
  refine wk ?_
  ((try (first | intro K ms hms hK | intro K hK)); (first | apply Chain.go | apply Chain.goD); exact rfl; exact rfl; refine Loc.callD (goodY a ho) rfl ?_; (repeat (first | exact trivial | refine ⟨.inl rfl, ?_⟩ | refine ⟨.inr rfl, ?_⟩)))
  refine wk ?_
  ((try (first | intro K ms hms hK | intro K hK)); (first | apply Chain.go | apply Chain.goD); exact rfl; exact rfl; refine Loc.callG (expr a.e ha) rfl ?_; (repeat (first | exact trivial | refine ⟨.inl rfl, ?_⟩ | refine ⟨.inr rfl, ?_⟩)))
  ((try (first | intro K ms hms hK | intro K hK)); (first | apply Chain.go | apply Chain.goD); exact rfl; exact rfl; refine Loc.callG (told8 (exN a.e) 256 (by omega) hs.c hs.t (by show (atN a).e.t.length ≤ _; omega)) rfl ?_; (repeat (first | exact trivial | refine ⟨.inl rfl, ?_⟩ | refine ⟨.inr rfl, ?_⟩)))
  refine wk ?_
  ((try (first | intro K ms hms hK | intro K hK)); (first | apply Chain.go | apply Chain.goD); exact rfl; exact rfl; refine Loc.callG (qInt (-1) (by omega) (by omega)) rfl ?_; (repeat (first | exact trivial | refine ⟨.inl rfl, ?_⟩ | refine ⟨.inr rfl, ?_⟩)))
  refine wk ?_
  ((try (first | intro K ms hms hK | intro K hK)); (first | apply Chain.go | apply Chain.goD); exact rfl; exact rfl; refine Loc.callD (awake9) rfl ?_; (repeat (first | exact trivial | refine ⟨.inl rfl, ?_⟩ | refine ⟨.inr rfl, ?_⟩)))
  refine wk ?_
  ((try (first | intro K ms hms hK | intro K hK)); (first | apply Chain.go | apply Chain.goD); exact rfl; exact rfl; refine Loc.callG (told8 c0.e 3354 (by omega) hsc0.c hsc0.t (by have := hsc0.n; omega)) rfl ?_; (repeat (first | exact trivial | refine ⟨.inl rfl, ?_⟩ | refine ⟨.inr rfl, ?_⟩)))
  refine wk ?_
  ((try (first | intro K ms hms hK | intro K hK)); (first | apply Chain.go | apply Chain.goD); exact rfl; exact rfl; refine Loc.callG (qInt 0 (by omega) (by omega)) rfl ?_; (repeat (first | exact trivial | refine ⟨.inl rfl, ?_⟩ | refine ⟨.inr rfl, ?_⟩)))
  refine wk ?_
  ((try (first | intro K ms hms hK | intro K hK)); (first | apply Chain.go | apply Chain.goD); exact rfl; exact rfl; refine Loc.callD (hm1) rfl ?_; (repeat (first | exact trivial | refine ⟨.inl rfl, ?_⟩ | refine ⟨.inr rfl, ?_⟩)))
  refine wk ?_
  refine AC.loop (X := Nat) (fun i => ⟨[(1, .d (.l (pt.map enN))), (2, .p 2 0), (9, .d (.v (.bool (anyP l i (ptN pt))))), (141, .d (.l (l.map enA))), (142, .d (.v (.int .i64 (l.length : Int)))), (143, .d (.v (.int .i64 (i : Int))))], [(2, .box 29 ((enAN a).map .d))]⟩) (fun i => i ≤ l.length) (fun i => l.length - i) 0 (Nat.zero_le _) ⟨rfl, rfl, rfl, rfl, rfl, rfl, trivial⟩ ⟨rfl, trivial⟩ ?_
  intro i hi
  refine wk ?_
  ((try (first | intro K ms hms hK | intro K hK)); (first | refine Chain.lss rfl rfl rfl rfl rfl (fun h1 => ?_) (fun h1 => ?_) | refine Chain.lssD rfl rfl rfl rfl rfl (fun h1 => ?_) (fun h1 => ?_)))
  · have hi' : i < l.length := by omega
    have hget : l[i]? = some l[i] := List.getElem?_eq_getElem hi'
    obtain ⟨hbo, hbs⟩ := hall l[i] (List.getElem_mem hi')
    have hsucc := anyP_succ hget (ptN pt)
    generalize l[i] = b at hget hbo hbs hsucc
    have hhb := holdsP b (ptN pt) hbs hbo (fun q hq => (ptN_bd hp q hq).mono (by omega)) (by omega) (by omega)
    refine wk ?_
    ((try (first | intro K ms hms hK | intro K hK)); (first | apply Chain.go | apply Chain.goD); exact rfl; exact rfl; refine Loc.callD (point pt hp) rfl ?_; (repeat (first | exact trivial | refine ⟨.inl rfl, ?_⟩ | refine ⟨.inr rfl, ?_⟩)))
    ((try (first | intro K ms hms hK | intro K hK)); (first | apply Chain.go | apply Chain.goD); exact rfl; exact rfl; refine Loc.callT (hhb) rfl ?_; (repeat (first | exact trivial | refine ⟨.inl rfl, ?_⟩ | refine ⟨.inr rfl, ?_⟩)))
    refine wk ?_
    (first | intro K ms hms hK | intro K hK)
    cases hs3 : anyP l i (ptN pt) with
    | true =>
      have e2 : anyP l (i + 1) (ptN pt) = true := by rw [hsucc, hs3]; rfl
      refine wk ?_
      refine ⟨i + 1, by omega, by omega, ⟨rfl, rfl, by rw [e2]; rfl, rfl, rfl, rfl, trivial⟩, ⟨rfl, trivial⟩⟩
    | false =>
      have e2 : anyP l (i + 1) (ptN pt) = atP b (ptN pt) := by rw [hsucc, hs3]; rfl
      refine wk ?_
      refine ⟨i + 1, by omega, by omega, ⟨rfl, rfl, by rw [e2]; rfl, rfl, rfl, rfl, trivial⟩, ⟨rfl, trivial⟩⟩
  · have e3 := hfin i (by omega)
    have e4 : (anyP l i (ptN pt) != atP (atN a) (ptN pt)) = true := by rw [e3]; cases atP (atN a) (ptN pt) <;> rfl
    refine wk ?_
    ((try (first | intro K ms hms hK | intro K hK)); (first | apply Chain.go | apply Chain.goD); exact rfl; exact rfl; refine Loc.callG (ofA a ha) rfl ?_; (repeat (first | exact trivial | refine ⟨.inl rfl, ?_⟩ | refine ⟨.inr rfl, ?_⟩)))
    refine wk ?_
    ((try (first | intro K ms hms hK | intro K hK)); (first | apply Chain.go | apply Chain.goD); exact rfl; exact rfl; refine Loc.callD (point pt hp) rfl ?_; (repeat (first | exact trivial | refine ⟨.inl rfl, ?_⟩ | refine ⟨.inr rfl, ?_⟩)))
    ((try (first | intro K ms hms hK | intro K hK)); (first | apply Chain.go | apply Chain.goD); exact rfl; exact rfl; refine Loc.callT (hh) rfl ?_; (repeat (first | exact trivial | refine ⟨.inl rfl, ?_⟩ | refine ⟨.inr rfl, ?_⟩)))
    refine wk ?_
    ((try (first | intro K ms hms hK | intro K hK)); (first | apply Chain.go | apply Chain.goD); exact rfl; exact rfl; exact Loc.neB rfl rfl rfl (by kernel_rfl) (e4))
    refine wk ?_
    exact ⟨.d rfl (.inl rfl), trivial⟩
set_option maxRecDepth 100000 in
set_option maxHeartbeats 4000000 in
theorem nots2 (a : AN) (pt : List (Bool × List Nat × List Nat)) (ha : okEN a.e) (hp : okP pt) (ho : okOp a.op) (h : a.op = 2) : Fn Try.prog 5 [.g (enAN a), .d (.l (pt.map enN))] [.d (.v (.bool true))] := by
  have hs := atN_sm a ha
  have hn := hs.n
  have hs' : Sm 12 3354 (atN a).e := hs.mono (by omega) (by omega)
  have hnot := notF (atN a) 256 ho hs.c hs.t (Nat.le_trans (Nat.mul_le_mul_right _ (by omega : _ ≤ 14)) (by omega))
  have hh := holdsP (atN a) (ptN pt) hs ho (ptN_bd hp) (by omega) (by omega)
  have b1 : Bd 3354 ((-1 : Int) : Rat) := Bd.mono (k := 1) ⟨by decide, by decide⟩ (by omega)
  have b2 : Bd 3354 ((1 : Int) : Rat) := Bd.mono (k := 1) ⟨by decide, by decide⟩ (by omega)
  have b0 : Bd 3354 ((0 : Int) : Rat) := Bd.mono (k := 1) ⟨by decide, by decide⟩ (by omega)
  have hm1 := meansS (means_neg (atN a).e) (scale_sm hs (by omega)) hs' hs' b1 b0 (by omega)
  have hfin := fun i => anyP_all (a := atN a) ho (ptN pt) (i := i)
  have hnl : notL (atN a) = [⟨(scaleE (-1) (atN a).e), 1⟩] := by unfold notL; rw [if_neg (by show ¬ a.op = 1; omega), if_pos (by exact h)]
  have hlen : (notL (atN a)).length = 1 := by rw [hnl]; rfl
  obtain ⟨c0, hg0, ho0, he0⟩ : ∃ b : At, (notL (atN a))[0]? = some b ∧ b.op = 1 ∧ b.e = (scaleE (-1) (atN a).e) := ⟨⟨(scaleE (-1) (atN a).e), 1⟩, by rw [hnl]; rfl, rfl, rfl⟩
  have hsc0 : Sm 12 3354 c0.e := by rw [he0]; exact scale_sm hs (by omega)
  have hall : ∀ b ∈ notL (atN a), okOp b.op ∧ Sm 12 3354 b.e := by
    intro b hb
    obtain ⟨i, hi, hb⟩ := List.getElem_of_mem hb
    have hb := hb ▸ List.getElem?_eq_getElem hi
    rw [hlen] at hi
    obtain rfl : i = 0 := by omega
    rw [hg0] at hb
    obtain rfl := Option.some.inj hb
    exact ⟨⟨by omega, by omega⟩, hsc0⟩
  rw [← he0] at hm1
  clear hnl
  generalize notL (atN a) = l at *
  refine Fn.of Try.func5 rfl (by kernel_rfl) Try.ntmps5 Try.results5 rfl fun w0 S0 => ?_
  refine wk ?_
  ((try (first | intro K ms hms hK | intro K hK)); (first | apply Chain.go | apply Chain.goD); exact rfl; exact rfl; refine Loc.callG (ofA a ha) rfl ?_; (repeat (first | exact trivial | refine ⟨.inl rfl, ?_⟩ | refine ⟨.inr rfl, ?_⟩)))
  ((try (first | intro K ms hms hK | intro K hK)); (first | apply Chain.go | apply Chain.goD); exact rfl; exact rfl; refine Loc.callT (hnot) rfl ?_; (repeat (first | exact trivial | refine ⟨.inl rfl, ?_⟩ | refine ⟨.inr rfl, ?_⟩)))
  refine wk ?_
  ((try (first | intro K ms hms hK | intro K hK)); (first | apply Chain.go | apply Chain.goD); exact rfl; exact rfl; refine Loc.callD (goodY a ho) rfl ?_; (repeat (first | exact trivial | refine ⟨.inl rfl, ?_⟩ | refine ⟨.inr rfl, ?_⟩)))
  refine wk ?_
  ((try (first | intro K ms hms hK | intro K hK)); (first | apply Chain.go | apply Chain.goD); exact rfl; exact rfl; refine Loc.callG (expr a.e ha) rfl ?_; (repeat (first | exact trivial | refine ⟨.inl rfl, ?_⟩ | refine ⟨.inr rfl, ?_⟩)))
  ((try (first | intro K ms hms hK | intro K hK)); (first | apply Chain.go | apply Chain.goD); exact rfl; exact rfl; refine Loc.callG (told8 (exN a.e) 256 (by omega) hs.c hs.t (by show (atN a).e.t.length ≤ _; omega)) rfl ?_; (repeat (first | exact trivial | refine ⟨.inl rfl, ?_⟩ | refine ⟨.inr rfl, ?_⟩)))
  refine wk ?_
  ((try (first | intro K ms hms hK | intro K hK)); (first | apply Chain.go | apply Chain.goD); exact rfl; exact rfl; refine Loc.callG (qInt (-1) (by omega) (by omega)) rfl ?_; (repeat (first | exact trivial | refine ⟨.inl rfl, ?_⟩ | refine ⟨.inr rfl, ?_⟩)))
  refine wk ?_
  ((try (first | intro K ms hms hK | intro K hK)); (first | apply Chain.go | apply Chain.goD); exact rfl; exact rfl; refine Loc.callD (awake9) rfl ?_; (repeat (first | exact trivial | refine ⟨.inl rfl, ?_⟩ | refine ⟨.inr rfl, ?_⟩)))
  refine wk ?_
  ((try (first | intro K ms hms hK | intro K hK)); (first | apply Chain.go | apply Chain.goD); exact rfl; exact rfl; refine Loc.callG (told8 c0.e 3354 (by omega) hsc0.c hsc0.t (by have := hsc0.n; omega)) rfl ?_; (repeat (first | exact trivial | refine ⟨.inl rfl, ?_⟩ | refine ⟨.inr rfl, ?_⟩)))
  refine wk ?_
  ((try (first | intro K ms hms hK | intro K hK)); (first | apply Chain.go | apply Chain.goD); exact rfl; exact rfl; refine Loc.callG (qInt 0 (by omega) (by omega)) rfl ?_; (repeat (first | exact trivial | refine ⟨.inl rfl, ?_⟩ | refine ⟨.inr rfl, ?_⟩)))
  refine wk ?_
  ((try (first | intro K ms hms hK | intro K hK)); (first | apply Chain.go | apply Chain.goD); exact rfl; exact rfl; refine Loc.callD (hm1) rfl ?_; (repeat (first | exact trivial | refine ⟨.inl rfl, ?_⟩ | refine ⟨.inr rfl, ?_⟩)))
  refine wk ?_
  refine AC.loop (X := Nat) (fun i => ⟨[(1, .d (.l (pt.map enN))), (2, .p 2 0), (9, .d (.v (.bool (anyP l i (ptN pt))))), (141, .d (.l (l.map enA))), (142, .d (.v (.int .i64 (l.length : Int)))), (143, .d (.v (.int .i64 (i : Int))))], [(2, .box 29 ((enAN a).map .d))]⟩) (fun i => i ≤ l.length) (fun i => l.length - i) 0 (Nat.zero_le _) ⟨rfl, rfl, rfl, rfl, rfl, rfl, trivial⟩ ⟨rfl, trivial⟩ ?_
  intro i hi
  refine wk ?_
  ((try (first | intro K ms hms hK | intro K hK)); (first | refine Chain.lss rfl rfl rfl rfl rfl (fun h1 => ?_) (fun h1 => ?_) | refine Chain.lssD rfl rfl rfl rfl rfl (fun h1 => ?_) (fun h1 => ?_)))
  · have hi' : i < l.length := by omega
    have hget : l[i]? = some l[i] := List.getElem?_eq_getElem hi'
    obtain ⟨hbo, hbs⟩ := hall l[i] (List.getElem_mem hi')
    have hsucc := anyP_succ hget (ptN pt)
    generalize l[i] = b at hget hbo hbs hsucc
    have hhb := holdsP b (ptN pt) hbs hbo (fun q hq => (ptN_bd hp q hq).mono (by omega)) (by omega) (by omega)
    refine wk ?_
    ((try (first | intro K ms hms hK | intro K hK)); (first | apply Chain.go | apply Chain.goD); exact rfl; exact rfl; refine Loc.callD (point pt hp) rfl ?_; (repeat (first | exact trivial | refine ⟨.inl rfl, ?_⟩ | refine ⟨.inr rfl, ?_⟩)))
    ((try (first | intro K ms hms hK | intro K hK)); (first | apply Chain.go | apply Chain.goD); exact rfl; exact rfl; refine Loc.callT (hhb) rfl ?_; (repeat (first | exact trivial | refine ⟨.inl rfl, ?_⟩ | refine ⟨.inr rfl, ?_⟩)))
    refine wk ?_
    (first | intro K ms hms hK | intro K hK)
    cases hs3 : anyP l i (ptN pt) with
    | true =>
      have e2 : anyP l (i + 1) (ptN pt) = true := by rw [hsucc, hs3]; rfl
      refine wk ?_
      refine ⟨i + 1, by omega, by omega, ⟨rfl, rfl, by rw [e2]; rfl, rfl, rfl, rfl, trivial⟩, ⟨rfl, trivial⟩⟩
    | false =>
      have e2 : anyP l (i + 1) (ptN pt) = atP b (ptN pt) := by rw [hsucc, hs3]; rfl
      refine wk ?_
      refine ⟨i + 1, by omega, by omega, ⟨rfl, rfl, by rw [e2]; rfl, rfl, rfl, rfl, trivial⟩, ⟨rfl, trivial⟩⟩
  · have e3 := hfin i (by omega)
    have e4 : (anyP l i (ptN pt) != atP (atN a) (ptN pt)) = true := by rw [e3]; cases atP (atN a) (ptN pt) <;> rfl
    refine wk ?_
    ((try (first | intro K ms hms hK | intro K hK)); (first | apply Chain.go | apply Chain.goD); exact rfl; exact rfl; refine Loc.callG (ofA a ha) rfl ?_; (repeat (first | exact trivial | refine ⟨.inl rfl, ?_⟩ | refine ⟨.inr rfl, ?_⟩)))
    refine wk ?_
    ((try (first | intro K ms hms hK | intro K hK)); (first | apply Chain.go | apply Chain.goD); exact rfl; exact rfl; refine Loc.callD (point pt hp) rfl ?_; (repeat (first | exact trivial | refine ⟨.inl rfl, ?_⟩ | refine ⟨.inr rfl, ?_⟩)))
    ((try (first | intro K ms hms hK | intro K hK)); (first | apply Chain.go | apply Chain.goD); exact rfl; exact rfl; refine Loc.callT (hh) rfl ?_; (repeat (first | exact trivial | refine ⟨.inl rfl, ?_⟩ | refine ⟨.inr rfl, ?_⟩)))
    refine wk ?_
    ((try (first | intro K ms hms hK | intro K hK)); (first | apply Chain.go | apply Chain.goD); exact rfl; exact rfl; exact Loc.neB rfl rfl rfl (by kernel_rfl) (e4))
    refine wk ?_
    exact ⟨.d rfl (.inl rfl), trivial⟩
set_option maxRecDepth 100000 in
set_option maxHeartbeats 4000000 in
theorem nots3 (a : AN) (pt : List (Bool × List Nat × List Nat)) (ha : okEN a.e) (hp : okP pt) (ho : okOp a.op) (h : a.op = 3) : Fn Try.prog 5 [.g (enAN a), .d (.l (pt.map enN))] [.d (.v (.bool true))] := by
  have hs := atN_sm a ha
  have hn := hs.n
  have hs' : Sm 12 3354 (atN a).e := hs.mono (by omega) (by omega)
  have hnot := notF (atN a) 256 ho hs.c hs.t (Nat.le_trans (Nat.mul_le_mul_right _ (by omega : _ ≤ 14)) (by omega))
  have hh := holdsP (atN a) (ptN pt) hs ho (ptN_bd hp) (by omega) (by omega)
  have b1 : Bd 3354 ((-1 : Int) : Rat) := Bd.mono (k := 1) ⟨by decide, by decide⟩ (by omega)
  have b2 : Bd 3354 ((1 : Int) : Rat) := Bd.mono (k := 1) ⟨by decide, by decide⟩ (by omega)
  have b0 : Bd 3354 ((0 : Int) : Rat) := Bd.mono (k := 1) ⟨by decide, by decide⟩ (by omega)
  have hm1 := meansS (means_neg (atN a).e) (scale_sm hs (by omega)) hs' hs' b1 b0 (by omega)
  have hm2 := meansS (means_can (atN a).e) (can_sm hs (by omega)) hs' hs' b2 b0 (by omega)
  have hfin := fun i => anyP_all (a := atN a) ho (ptN pt) (i := i)
  have hnl : notL (atN a) = [⟨(⟨canL (atN a).e.t, (atN a).e.c⟩ : Ex), 2⟩, ⟨(scaleE (-1) (atN a).e), 2⟩] := by unfold notL; rw [if_neg (by show ¬ a.op = 1; omega), if_neg (by show ¬ a.op = 2; omega)]
  have hlen : (notL (atN a)).length = 2 := by rw [hnl]; rfl
  obtain ⟨c0, hg0, ho0, he0⟩ : ∃ b : At, (notL (atN a))[0]? = some b ∧ b.op = 2 ∧ b.e = (⟨canL (atN a).e.t, (atN a).e.c⟩ : Ex) := ⟨⟨(⟨canL (atN a).e.t, (atN a).e.c⟩ : Ex), 2⟩, by rw [hnl]; rfl, rfl, rfl⟩
  have hsc0 : Sm 12 3354 c0.e := by rw [he0]; exact can_sm hs (by omega)
  obtain ⟨c1, hg1, ho1, he1⟩ : ∃ b : At, (notL (atN a))[1]? = some b ∧ b.op = 2 ∧ b.e = (scaleE (-1) (atN a).e) := ⟨⟨(scaleE (-1) (atN a).e), 2⟩, by rw [hnl]; rfl, rfl, rfl⟩
  have hsc1 : Sm 12 3354 c1.e := by rw [he1]; exact scale_sm hs (by omega)
  have hall : ∀ b ∈ notL (atN a), okOp b.op ∧ Sm 12 3354 b.e := by
    intro b hb
    obtain ⟨i, hi, hb⟩ := List.getElem_of_mem hb
    have hb := hb ▸ List.getElem?_eq_getElem hi
    rw [hlen] at hi
    obtain rfl | rfl : i = 0 ∨ i = 1 := by omega
    · rw [hg0] at hb
      obtain rfl := Option.some.inj hb
      exact ⟨⟨by omega, by omega⟩, hsc0⟩
    · rw [hg1] at hb
      obtain rfl := Option.some.inj hb
      exact ⟨⟨by omega, by omega⟩, hsc1⟩
  rw [← he0] at hm2
  rw [← he1] at hm1
  clear hnl
  generalize notL (atN a) = l at *
  refine Fn.of Try.func5 rfl (by kernel_rfl) Try.ntmps5 Try.results5 rfl fun w0 S0 => ?_
  refine wk ?_
  ((try (first | intro K ms hms hK | intro K hK)); (first | apply Chain.go | apply Chain.goD); exact rfl; exact rfl; refine Loc.callG (ofA a ha) rfl ?_; (repeat (first | exact trivial | refine ⟨.inl rfl, ?_⟩ | refine ⟨.inr rfl, ?_⟩)))
  ((try (first | intro K ms hms hK | intro K hK)); (first | apply Chain.go | apply Chain.goD); exact rfl; exact rfl; refine Loc.callT (hnot) rfl ?_; (repeat (first | exact trivial | refine ⟨.inl rfl, ?_⟩ | refine ⟨.inr rfl, ?_⟩)))
  refine wk ?_
  ((try (first | intro K ms hms hK | intro K hK)); (first | apply Chain.go | apply Chain.goD); exact rfl; exact rfl; refine Loc.callD (goodY a ho) rfl ?_; (repeat (first | exact trivial | refine ⟨.inl rfl, ?_⟩ | refine ⟨.inr rfl, ?_⟩)))
  refine wk ?_
  ((try (first | intro K ms hms hK | intro K hK)); (first | apply Chain.go | apply Chain.goD); exact rfl; exact rfl; refine Loc.callG (expr a.e ha) rfl ?_; (repeat (first | exact trivial | refine ⟨.inl rfl, ?_⟩ | refine ⟨.inr rfl, ?_⟩)))
  ((try (first | intro K ms hms hK | intro K hK)); (first | apply Chain.go | apply Chain.goD); exact rfl; exact rfl; refine Loc.callG (told8 (exN a.e) 256 (by omega) hs.c hs.t (by show (atN a).e.t.length ≤ _; omega)) rfl ?_; (repeat (first | exact trivial | refine ⟨.inl rfl, ?_⟩ | refine ⟨.inr rfl, ?_⟩)))
  refine wk ?_
  ((try (first | intro K ms hms hK | intro K hK)); (first | apply Chain.go | apply Chain.goD); exact rfl; exact rfl; refine Loc.callG (qInt (-1) (by omega) (by omega)) rfl ?_; (repeat (first | exact trivial | refine ⟨.inl rfl, ?_⟩ | refine ⟨.inr rfl, ?_⟩)))
  refine wk ?_
  ((try (first | intro K ms hms hK | intro K hK)); (first | apply Chain.go | apply Chain.goD); exact rfl; exact rfl; refine Loc.callD (awake9) rfl ?_; (repeat (first | exact trivial | refine ⟨.inl rfl, ?_⟩ | refine ⟨.inr rfl, ?_⟩)))
  refine wk ?_
  ((try (first | intro K ms hms hK | intro K hK)); (first | apply Chain.go | apply Chain.goD); exact rfl; exact rfl; refine Loc.callG (told8 c0.e 3354 (by omega) hsc0.c hsc0.t (by have := hsc0.n; omega)) rfl ?_; (repeat (first | exact trivial | refine ⟨.inl rfl, ?_⟩ | refine ⟨.inr rfl, ?_⟩)))
  refine wk ?_
  ((try (first | intro K ms hms hK | intro K hK)); (first | apply Chain.go | apply Chain.goD); exact rfl; exact rfl; refine Loc.callG (qInt 1 (by omega) (by omega)) rfl ?_; (repeat (first | exact trivial | refine ⟨.inl rfl, ?_⟩ | refine ⟨.inr rfl, ?_⟩)))
  refine wk ?_
  ((try (first | intro K ms hms hK | intro K hK)); (first | apply Chain.go | apply Chain.goD); exact rfl; exact rfl; refine Loc.callG (qInt 0 (by omega) (by omega)) rfl ?_; (repeat (first | exact trivial | refine ⟨.inl rfl, ?_⟩ | refine ⟨.inr rfl, ?_⟩)))
  refine wk ?_
  ((try (first | intro K ms hms hK | intro K hK)); (first | apply Chain.go | apply Chain.goD); exact rfl; exact rfl; refine Loc.callD (hm2) rfl ?_; (repeat (first | exact trivial | refine ⟨.inl rfl, ?_⟩ | refine ⟨.inr rfl, ?_⟩)))
  refine wk ?_
  ((try (first | intro K ms hms hK | intro K hK)); (first | apply Chain.go | apply Chain.goD); exact rfl; exact rfl; refine Loc.callG (told8 c1.e 3354 (by omega) hsc1.c hsc1.t (by have := hsc1.n; omega)) rfl ?_; (repeat (first | exact trivial | refine ⟨.inl rfl, ?_⟩ | refine ⟨.inr rfl, ?_⟩)))
  refine wk ?_
  ((try (first | intro K ms hms hK | intro K hK)); (first | apply Chain.go | apply Chain.goD); exact rfl; exact rfl; refine Loc.callG (qInt 0 (by omega) (by omega)) rfl ?_; (repeat (first | exact trivial | refine ⟨.inl rfl, ?_⟩ | refine ⟨.inr rfl, ?_⟩)))
  refine wk ?_
  ((try (first | intro K ms hms hK | intro K hK)); (first | apply Chain.go | apply Chain.goD); exact rfl; exact rfl; refine Loc.callD (hm1) rfl ?_; (repeat (first | exact trivial | refine ⟨.inl rfl, ?_⟩ | refine ⟨.inr rfl, ?_⟩)))
  refine wk ?_
  refine AC.loop (X := Nat) (fun i => ⟨[(1, .d (.l (pt.map enN))), (2, .p 2 0), (9, .d (.v (.bool (anyP l i (ptN pt))))), (141, .d (.l (l.map enA))), (142, .d (.v (.int .i64 (l.length : Int)))), (143, .d (.v (.int .i64 (i : Int))))], [(2, .box 29 ((enAN a).map .d))]⟩) (fun i => i ≤ l.length) (fun i => l.length - i) 0 (Nat.zero_le _) ⟨rfl, rfl, rfl, rfl, rfl, rfl, trivial⟩ ⟨rfl, trivial⟩ ?_
  intro i hi
  refine wk ?_
  ((try (first | intro K ms hms hK | intro K hK)); (first | refine Chain.lss rfl rfl rfl rfl rfl (fun h1 => ?_) (fun h1 => ?_) | refine Chain.lssD rfl rfl rfl rfl rfl (fun h1 => ?_) (fun h1 => ?_)))
  · have hi' : i < l.length := by omega
    have hget : l[i]? = some l[i] := List.getElem?_eq_getElem hi'
    obtain ⟨hbo, hbs⟩ := hall l[i] (List.getElem_mem hi')
    have hsucc := anyP_succ hget (ptN pt)
    generalize l[i] = b at hget hbo hbs hsucc
    have hhb := holdsP b (ptN pt) hbs hbo (fun q hq => (ptN_bd hp q hq).mono (by omega)) (by omega) (by omega)
    refine wk ?_
    ((try (first | intro K ms hms hK | intro K hK)); (first | apply Chain.go | apply Chain.goD); exact rfl; exact rfl; refine Loc.callD (point pt hp) rfl ?_; (repeat (first | exact trivial | refine ⟨.inl rfl, ?_⟩ | refine ⟨.inr rfl, ?_⟩)))
    ((try (first | intro K ms hms hK | intro K hK)); (first | apply Chain.go | apply Chain.goD); exact rfl; exact rfl; refine Loc.callT (hhb) rfl ?_; (repeat (first | exact trivial | refine ⟨.inl rfl, ?_⟩ | refine ⟨.inr rfl, ?_⟩)))
    refine wk ?_
    (first | intro K ms hms hK | intro K hK)
    cases hs3 : anyP l i (ptN pt) with
    | true =>
      have e2 : anyP l (i + 1) (ptN pt) = true := by rw [hsucc, hs3]; rfl
      refine wk ?_
      refine ⟨i + 1, by omega, by omega, ⟨rfl, rfl, by rw [e2]; rfl, rfl, rfl, rfl, trivial⟩, ⟨rfl, trivial⟩⟩
    | false =>
      have e2 : anyP l (i + 1) (ptN pt) = atP b (ptN pt) := by rw [hsucc, hs3]; rfl
      refine wk ?_
      refine ⟨i + 1, by omega, by omega, ⟨rfl, rfl, by rw [e2]; rfl, rfl, rfl, rfl, trivial⟩, ⟨rfl, trivial⟩⟩
  · have e3 := hfin i (by omega)
    have e4 : (anyP l i (ptN pt) != atP (atN a) (ptN pt)) = true := by rw [e3]; cases atP (atN a) (ptN pt) <;> rfl
    refine wk ?_
    ((try (first | intro K ms hms hK | intro K hK)); (first | apply Chain.go | apply Chain.goD); exact rfl; exact rfl; refine Loc.callG (ofA a ha) rfl ?_; (repeat (first | exact trivial | refine ⟨.inl rfl, ?_⟩ | refine ⟨.inr rfl, ?_⟩)))
    refine wk ?_
    ((try (first | intro K ms hms hK | intro K hK)); (first | apply Chain.go | apply Chain.goD); exact rfl; exact rfl; refine Loc.callD (point pt hp) rfl ?_; (repeat (first | exact trivial | refine ⟨.inl rfl, ?_⟩ | refine ⟨.inr rfl, ?_⟩)))
    ((try (first | intro K ms hms hK | intro K hK)); (first | apply Chain.go | apply Chain.goD); exact rfl; exact rfl; refine Loc.callT (hh) rfl ?_; (repeat (first | exact trivial | refine ⟨.inl rfl, ?_⟩ | refine ⟨.inr rfl, ?_⟩)))
    refine wk ?_
    ((try (first | intro K ms hms hK | intro K hK)); (first | apply Chain.go | apply Chain.goD); exact rfl; exact rfl; exact Loc.neB rfl rfl rfl (by kernel_rfl) (e4))
    refine wk ?_
    exact ⟨.d rfl (.inl rfl), trivial⟩
theorem notsF (a : AN) (pt : List (Bool × List Nat × List Nat)) (ha : okEN a.e) (hp : okP pt) : Fn Try.prog 5 [.g (enAN a), .d (.l (pt.map enN))] [.d (.v (.bool true))] := by
  by_cases ho : okOp a.op
  · rcases okOp_cases ho with h | h | h
    · exact nots1 a pt ha hp ho h
    · exact nots2 a pt ha hp ho h
    · exact nots3 a pt ha hp ho h
  · exact notsNo a pt ha ho
end Go.Proofs.Ytfijmpmojhlnmaa
