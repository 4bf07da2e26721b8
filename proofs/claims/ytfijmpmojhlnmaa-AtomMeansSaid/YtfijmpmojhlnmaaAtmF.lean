/-
  AtomMeans, AtomNots: what their functions compute, by plain data.
-/
import Derived.Test.YtfijmpmojhlnmaaAtmE
import Derived.Test.YtfijmpmojhlnmaaRuleX
namespace Go.Proofs.Ytfijmpmojhlnmaa
open Go.RowKit
attribute [local irreducible] AC Do St
theorem sgnR_neg {q : Rat} : sgnR q < 0 ↔ q < 0 := by
  unfold sgnR
  have h := Rat.num_nonneg (q := q)
  split
  · exact ⟨fun _ => by have : ¬ 0 ≤ q := fun h2 => absurd (h.2 h2) (by omega); grind, fun _ => by omega⟩
  · have : 0 ≤ q := h.1 (by omega)
    split <;> exact ⟨fun h => by omega, fun h => by grind⟩
theorem sgnR_le {q : Rat} : sgnR q ≤ 0 ↔ q ≤ 0 := by
  by_cases h : q = 0
  · rw [sgnR_zero.2 h, h]; simp
  · have h1 := mt sgnR_zero.1 h
    have h2 := sgnR_neg (q := q)
    constructor
    · intro h3
      have := h2.1 (by omega)
      grind
    · intro h3
      have := h2.2 (by grind)
      omega
theorem sayB_1 (q : Rat) : sayB 1 q = decide (q ≤ 0) := by
  unfold sayB
  rw [if_pos rfl]
  exact decide_eq_decide.2 sgnR_le
theorem sayB_2 (q : Rat) : sayB 2 q = decide (q < 0) := by
  unfold sayB
  rw [if_neg (by decide), if_pos rfl]
  exact decide_eq_decide.2 sgnR_neg
theorem sayB_3 (q : Rat) : sayB 3 q = decide (q = 0) := by
  unfold sayB
  rw [if_neg (by decide), if_neg (by decide)]
  exact decide_eq_decide.2 sgnR_zero
theorem okOp_cases {op : Int} (h : okOp op) : op = 1 ∨ op = 2 ∨ op = 3 := by unfold okOp at h; omega
theorem mul_neg_iff {r q : Rat} (hr : 0 < r) : r * q < 0 ↔ q < 0 := by
  constructor
  · intro h
    refine Classical.byContradiction fun h2 => ?_
    have := Rat.mul_nonneg (Rat.le_of_lt hr) (show 0 ≤ q by grind)
    grind
  · intro h
    have := Rat.mul_pos hr (show 0 < -q by grind)
    grind
theorem mul_zero_iff {r q : Rat} (hr : r ≠ 0) : r * q = 0 ↔ q = 0 := by
  rw [Rat.mul_eq_zero]
  exact ⟨fun h => h.resolve_left hr, fun h => .inr h⟩
theorem say_scale {op : Int} {r : Rat} (q : Rat) (ho : okOp op) (hr : r ≠ 0) (h3 : op ≠ 3 → 0 < r) : sayB op (r * q) = sayB op q := by
  have h0 := mul_zero_iff (q := q) hr
  rcases okOp_cases ho with h | h | h
  · subst h
    have h1 := mul_neg_iff (q := q) (h3 (by decide))
    rw [sayB_1, sayB_1]
    refine decide_eq_decide.2 ⟨fun h => ?_, fun h => ?_⟩
    · by_cases h4 : q = 0
      · grind
      · have := h1.1 (by grind); grind
    · by_cases h4 : q = 0
      · rw [h0.2 h4]; grind
      · have := h1.2 (by grind); grind
  · subst h
    rw [sayB_2, sayB_2]
    exact decide_eq_decide.2 (mul_neg_iff (h3 (by decide)))
  · subst h
    rw [sayB_3, sayB_3]
    exact decide_eq_decide.2 h0
/-- A constraint and its one form hold at the same points. -/
theorem canA_says (a : At) {c : Rat} (hc : c ≠ 0) (ho : okOp a.op) (p : List Rat) : sayB (canA a c).op ((canA a c).e.c + evalT p (canA a c).e.t) = sayB a.op (a.e.c + evalT p a.e.t) := by
  rw [canA_c, eval_scale p (canA_coef a hc)]
  show sayB a.op _ = _
  rw [show byQ a.op c * a.e.c + byQ a.op c * evalT p a.e.t = byQ a.op c * (a.e.c + evalT p a.e.t) by grind]
  exact say_scale _ ho (byQ_ne hc) fun h => byQ_pos h hc
theorem num_says {a : At} (hl : leadQ a.e = none) (p : List Rat) : a.e.c + evalT p a.e.t = a.e.c := by
  have : evalT p a.e.t = evalT p [] := eval_same p fun v => by rw [leadQ_none hl v]; rfl
  rw [this]
  show _ + (0 : Rat) = _
  grind
theorem evQ_eq (e : Ex) (p : List Rat) : evQ e p p.length = e.c + evalT p e.t := by
  have : ∀ n, evQ e p n = e.c + sumTo n (fun i => coef e.t (i : Int) * p.getD i 0) := by
    intro n
    induction n with
    | zero => simp only [evQ, sumTo]; grind
    | succ n ih => simp only [evQ, sumTo, ih]; grind
  rw [this, eval_coef]
/-- Where a constraint's opposite holds. -/
theorem not_says (a : At) (ho : okOp a.op) (p : List Rat) : (notL a).any (fun b => sayB b.op (b.e.c + evalT p b.e.t)) = !sayB a.op (a.e.c + evalT p a.e.t) := by
  have hneg : (scaleE (-1) a.e).c + evalT p (scaleE (-1) a.e).t = -(a.e.c + evalT p a.e.t) := by
    have h1 : evalT p (scaleE (-1) a.e).t = -1 * evalT p a.e.t := eval_scale p fun v => by
      unfold scaleE
      rw [(canL_spec _).2.1]
      exact coef_map _ _ _
    rw [h1]
    show -1 * a.e.c + _ = _
    grind
  have hcan : evalT p (canL a.e.t) = evalT p a.e.t := eval_same p (canL_spec _).2.1
  unfold notL
  rcases okOp_cases ho with h | h | h
  · rw [if_pos h, h]
    simp only [List.any_cons, List.any_nil, Bool.or_false, hneg, sayB_1, sayB_2]
    generalize a.e.c + evalT p a.e.t = q
    by_cases hq : q ≤ 0
    · rw [decide_eq_true hq, decide_eq_false (by grind)]; rfl
    · rw [decide_eq_false hq, decide_eq_true (by grind)]; rfl
  · rw [if_neg (by omega), if_pos h, h]
    simp only [List.any_cons, List.any_nil, Bool.or_false, hneg, sayB_1, sayB_2]
    generalize a.e.c + evalT p a.e.t = q
    by_cases hq : q < 0
    · rw [decide_eq_true hq, decide_eq_false (by grind)]; rfl
    · rw [decide_eq_false hq, decide_eq_true (by grind)]; rfl
  · rw [if_neg (by omega), if_neg (by omega), h]
    simp only [List.any_cons, List.any_nil, Bool.or_false, hneg, hcan, sayB_2, sayB_3]
    generalize a.e.c + evalT p a.e.t = q
    by_cases hq : q < 0
    · rw [decide_eq_true hq, decide_eq_false (by grind : ¬ q = 0)]; rfl
    · by_cases hq0 : q = 0
      · rw [decide_eq_false hq, decide_eq_false (by grind), decide_eq_true hq0]; rfl
      · rw [decide_eq_false hq, decide_eq_true (by grind), decide_eq_false hq0]; rfl
theorem ptN_bd {l : List (Bool × List Nat × List Nat)} (hl : okP l) : ∀ q ∈ ptN l, Bd 256 q := fun q hq => by
  obtain ⟨n, hn, rfl⟩ := List.mem_map.1 hq
  exact bdN n (hl n (List.mem_of_mem_take hn))
theorem ptN_len (l : List (Bool × List Nat × List Nat)) : (ptN l).length ≤ 6 := by
  unfold ptN
  simp
  omega
set_option maxRecDepth 100000 in
set_option maxHeartbeats 4000000 in
theorem meansNo (a : AN) (pt : List (Bool × List Nat × List Nat)) (ha : okEN a.e) (hp : okP pt) (ho : ¬ okOp a.op) : Fn Try.prog 4 [.g (enAN a), .d (.l (pt.map enN))] [.d (.v (.bool true))] := by
  refine Fn.of Try.func4 rfl (by kernel_rfl) Try.ntmps4 Try.results4 rfl fun w0 S0 => ?_
  refine wk ?_
  ((try (first | intro K ms hms hK | intro K hK)); (first | apply Chain.go | apply Chain.goD); exact rfl; exact rfl; refine Loc.callD (point pt hp) rfl ?_; (repeat (first | exact trivial | refine ⟨.inl rfl, ?_⟩ | refine ⟨.inr rfl, ?_⟩)))
  refine wk ?_
  ((try (first | intro K ms hms hK | intro K hK)); (first | apply Chain.go | apply Chain.goD); exact rfl; exact rfl; refine Loc.callG (ofA a ha) rfl ?_; (repeat (first | exact trivial | refine ⟨.inl rfl, ?_⟩ | refine ⟨.inr rfl, ?_⟩)))
  refine wk ?_
  ((try (first | intro K ms hms hK | intro K hK)); (first | apply Chain.go | apply Chain.goD); exact rfl; exact rfl; refine Loc.callD (point pt hp) rfl ?_; (repeat (first | exact trivial | refine ⟨.inl rfl, ?_⟩ | refine ⟨.inr rfl, ?_⟩)))
  ((try (first | intro K ms hms hK | intro K hK)); (first | apply Chain.go | apply Chain.goD); exact rfl; exact rfl; refine Loc.callT (holdsNo (atN a) (ptN pt) ho) rfl ?_; (repeat (first | exact trivial | refine ⟨.inl rfl, ?_⟩ | refine ⟨.inr rfl, ?_⟩)))
  refine wk ?_
  ((try (first | intro K ms hms hK | intro K hK)); (first | apply Chain.go | apply Chain.goD); exact rfl; exact rfl; refine Loc.callD (goodN a ho) rfl ?_; (repeat (first | exact trivial | refine ⟨.inl rfl, ?_⟩ | refine ⟨.inr rfl, ?_⟩)))
  refine wk ?_
  ((try (first | intro K ms hms hK | intro K hK)); (first | apply Chain.go | apply Chain.goD); exact rfl; exact rfl; refine Loc.callD (awake9) rfl ?_; (repeat (first | exact trivial | refine ⟨.inl rfl, ?_⟩ | refine ⟨.inr rfl, ?_⟩)))
  refine wk ?_
  exact ⟨.d rfl (.inl rfl), trivial⟩
/-- What stands at a point. -/
noncomputable def atP (a : At) (p : List Rat) : Bool := sayB a.op (a.e.c + evalT p a.e.t)
theorem holdsP {N k : Nat} (a : At) (p : List Rat) (h : Sm N k a.e) (ho : okOp a.op) (hp : ∀ q ∈ p, Bd k q) (hk0 : 0 < k) (hk : (N + 2) * (2 * k + 1) ≤ 50000000) : Fn Try.prog 22 [.g (enA a), .d (.l (p.map enR))] [.d (.v (.bool (atP a p))), .d (.v (.int .i64 0))] :=
  holdsF a p k ho h.c h.t hp hk0 (Nat.le_trans (Nat.mul_le_mul_right _ (by have := h.n; omega)) hk)
theorem evalP {N k M : Nat} (e : Ex) (p : List Rat) (h : Sm N k e) (hp : ∀ q ∈ p, Bd k q) (hl : p.length ≤ M) (hk : (M + 2) * ((N + 2) * (k + 1) + k + 1) ≤ 50000000) : Fn Try.prog 24 [.g (enEQ e), .d (.l (p.map enQ))] [.g (enQ (e.c + evalT p e.t))] := by
  have := evalQ e p k h.c h.t hp (Nat.le_trans (Nat.mul_le_mul (by omega) (Nat.add_le_add_right (Nat.add_le_add_right (Nat.mul_le_mul_right _ (by have := h.n; omega)) _) _)) hk)
  rwa [evQ_eq] at this
set_option maxRecDepth 100000 in
set_option maxHeartbeats 4000000 in
theorem meansNum (a : AN) (pt : List (Bool × List Nat × List Nat)) (ha : okEN a.e) (hp : okP pt) (ho : okOp a.op) (hl : leadQ (atN a).e = none) (h0 : canL (atN a).e.t = []) : Fn Try.prog 4 [.g (enAN a), .d (.l (pt.map enN))] [.d (.v (.bool true))] := by
  have hs := atN_sm a ha
  have hn := hs.n
  have hcan := canNum (atN a) 256 ho hs.t (Nat.le_trans (Nat.mul_le_mul_right _ (by omega : _ ≤ 14)) (by omega)) h0
  have hh := holdsP (atN a) (ptN pt) hs ho (ptN_bd hp) (by omega) (by omega)
  have hev := evalP (atN a).e (ptN pt) hs (ptN_bd hp) (ptN_len pt) (by omega)
  have hsay : Fn Try.prog 23 [.d (.v (.int .i64 a.op)), .g (enQ ((atN a).e.c + evalT (ptN pt) (atN a).e.t))] [.d (.v (.bool (atP (atN a) (ptN pt))))] := saysQ a.op _
  have hnum : atP (atN a) (ptN pt) = sayB (atN a).op (atN a).e.c := by unfold atP; rw [num_says hl]
  rw [← hnum] at hcan
  have hr : ∀ h, h = atP (atN a) (ptN pt) → ∃ r : Int, (if h = true then 1 else 2 : Int) = r ∧ ((r = 1 ∧ h = true) ∨ (r = 2 ∧ h = false)) := by
    intro h _
    cases h with
    | true => exact ⟨1, rfl, .inl ⟨rfl, rfl⟩⟩
    | false => exact ⟨2, rfl, .inr ⟨rfl, rfl⟩⟩
  obtain ⟨r, e1, hr⟩ := hr _ rfl
  rw [e1] at hcan
  clear e1
  generalize atP (atN a) (ptN pt) = h at *
  refine Fn.of Try.func4 rfl (by kernel_rfl) Try.ntmps4 Try.results4 rfl fun w0 S0 => ?_
  refine wk ?_
  ((try (first | intro K ms hms hK | intro K hK)); (first | apply Chain.go | apply Chain.goD); exact rfl; exact rfl; refine Loc.callD (point pt hp) rfl ?_; (repeat (first | exact trivial | refine ⟨.inl rfl, ?_⟩ | refine ⟨.inr rfl, ?_⟩)))
  refine wk ?_
  ((try (first | intro K ms hms hK | intro K hK)); (first | apply Chain.go | apply Chain.goD); exact rfl; exact rfl; refine Loc.callG (ofA a ha) rfl ?_; (repeat (first | exact trivial | refine ⟨.inl rfl, ?_⟩ | refine ⟨.inr rfl, ?_⟩)))
  refine wk ?_
  ((try (first | intro K ms hms hK | intro K hK)); (first | apply Chain.go | apply Chain.goD); exact rfl; exact rfl; refine Loc.callD (point pt hp) rfl ?_; (repeat (first | exact trivial | refine ⟨.inl rfl, ?_⟩ | refine ⟨.inr rfl, ?_⟩)))
  ((try (first | intro K ms hms hK | intro K hK)); (first | apply Chain.go | apply Chain.goD); exact rfl; exact rfl; refine Loc.callT (hh) rfl ?_; (repeat (first | exact trivial | refine ⟨.inl rfl, ?_⟩ | refine ⟨.inr rfl, ?_⟩)))
  refine wk ?_
  ((try (first | intro K ms hms hK | intro K hK)); (first | apply Chain.go | apply Chain.goD); exact rfl; exact rfl; refine Loc.callD (goodY a ho) rfl ?_; (repeat (first | exact trivial | refine ⟨.inl rfl, ?_⟩ | refine ⟨.inr rfl, ?_⟩)))
  refine wk ?_
  ((try (first | intro K ms hms hK | intro K hK)); (first | apply Chain.go | apply Chain.goD); exact rfl; exact rfl; refine Loc.callD (awake9) rfl ?_; (repeat (first | exact trivial | refine ⟨.inl rfl, ?_⟩ | refine ⟨.inr rfl, ?_⟩)))
  refine wk ?_
  ((try (first | intro K ms hms hK | intro K hK)); (first | apply Chain.go | apply Chain.goD); exact rfl; exact rfl; refine Loc.callG (expr a.e ha) rfl ?_; (repeat (first | exact trivial | refine ⟨.inl rfl, ?_⟩ | refine ⟨.inr rfl, ?_⟩)))
  ((try (first | intro K ms hms hK | intro K hK)); (first | apply Chain.go | apply Chain.goD); exact rfl; exact rfl; refine Loc.callG (told8 (exN a.e) 256 (by omega) hs.c hs.t (by show (atN a).e.t.length ≤ _; omega)) rfl ?_; (repeat (first | exact trivial | refine ⟨.inl rfl, ?_⟩ | refine ⟨.inr rfl, ?_⟩)))
  refine wk ?_
  ((try (first | intro K ms hms hK | intro K hK)); (first | apply Chain.go | apply Chain.goD); exact rfl; exact rfl; refine Loc.callD (nums (ptN pt) 256 (by omega) (ptN_bd hp) (by have := ptN_len pt; omega)) rfl ?_; (repeat (first | exact trivial | refine ⟨.inl rfl, ?_⟩ | refine ⟨.inr rfl, ?_⟩)))
  ((try (first | intro K ms hms hK | intro K hK)); (first | apply Chain.go | apply Chain.goD); exact rfl; exact rfl; refine Loc.callG (hev) rfl ?_; (repeat (first | exact trivial | refine ⟨.inl rfl, ?_⟩ | refine ⟨.inr rfl, ?_⟩)))
  ((try (first | intro K ms hms hK | intro K hK)); (first | apply Chain.go | apply Chain.goD); exact rfl; exact rfl; refine Loc.callD (hsay) rfl ?_; (repeat (first | exact trivial | refine ⟨.inl rfl, ?_⟩ | refine ⟨.inr rfl, ?_⟩)))
  ((try (first | intro K ms hms hK | intro K hK)); (first | apply Chain.go | apply Chain.goD); exact rfl; exact rfl; exact Loc.neB rfl rfl rfl (by kernel_rfl) (bne_self_eq_false h))
  refine wk ?_
  ((try (first | intro K ms hms hK | intro K hK)); (first | apply Chain.go | apply Chain.goD); exact rfl; exact rfl; refine Loc.callG (ofA a ha) rfl ?_; (repeat (first | exact trivial | refine ⟨.inl rfl, ?_⟩ | refine ⟨.inr rfl, ?_⟩)))
  ((try (first | intro K ms hms hK | intro K hK)); (first | apply Chain.go | apply Chain.goD); exact rfl; exact rfl; refine Loc.callT (hcan) rfl ?_; (repeat (first | exact trivial | refine ⟨.inl rfl, ?_⟩ | refine ⟨.inr rfl, ?_⟩)))
  refine wk ?_
  (first | intro K ms hms hK | intro K hK)
  rcases hr with ⟨hr1, hr2⟩ | ⟨hr1, hr2⟩
  · subst hr2
    refine wk ?_
    ((try (first | intro K ms hms hK | intro K hK)); (first | apply Chain.go | apply Chain.goD); exact rfl; exact rfl; exact Loc.eqB rfl rfl rfl (by kernel_rfl) ((rfl : (true == true) = true)))
    refine wk ?_
    exact ⟨.d rfl (.inl rfl), trivial⟩
  · subst hr2
    refine wk ?_
    ((try (first | intro K ms hms hK | intro K hK)); (first | apply Chain.go | apply Chain.goD); exact rfl; exact rfl; exact Loc.eqB rfl rfl rfl (by kernel_rfl) ((rfl : (false == false) = true)))
    refine wk ?_
    exact ⟨.d rfl (.inl rfl), trivial⟩
set_option maxRecDepth 100000 in
set_option maxHeartbeats 4000000 in
theorem meansOpen (a : AN) (pt : List (Bool × List Nat × List Nat)) (ha : okEN a.e) (hp : okP pt) (ho : okOp a.op) {v : Int} {c : Rat} {l : List Tm} (h0 : canL (atN a).e.t = (v, c) :: l) (hne : c ≠ 0) : Fn Try.prog 4 [.g (enAN a), .d (.l (pt.map enN))] [.d (.v (.bool true))] := by
  have hs := atN_sm a ha
  have hn := hs.n
  have hcan := canOpen (atN a) 256 3341 ho hs.c hs.t (Nat.le_trans (Nat.mul_le_mul_right _ (by omega : _ ≤ 13)) (by omega)) (Nat.le_trans (Nat.mul_le_mul_right _ (by omega : _ ≤ 14)) (by omega)) h0 hne
  have hs2 : Sm 12 (3341 + 3341) (canA (atN a) c).e := canA_sm (atN a) hs (by omega) h0 hne
  have hh := holdsP (atN a) (ptN pt) hs ho (ptN_bd hp) (by omega) (by omega)
  have hg := holdsP (canA (atN a) c) (ptN pt) hs2 ho (fun q hq => (ptN_bd hp q hq).mono (by omega)) (by omega) (by omega)
  have heq : atP (canA (atN a) c) (ptN pt) = atP (atN a) (ptN pt) := canA_says (atN a) hne ho (ptN pt)
  rw [heq] at hg
  clear heq
  have hev := evalP (atN a).e (ptN pt) hs (ptN_bd hp) (ptN_len pt) (by omega)
  have hsay : Fn Try.prog 23 [.d (.v (.int .i64 a.op)), .g (enQ ((atN a).e.c + evalT (ptN pt) (atN a).e.t))] [.d (.v (.bool (atP (atN a) (ptN pt))))] := saysQ a.op _
  generalize atP (atN a) (ptN pt) = h at *
  generalize canA (atN a) c = X at *
  refine Fn.of Try.func4 rfl (by kernel_rfl) Try.ntmps4 Try.results4 rfl fun w0 S0 => ?_
  refine wk ?_
  ((try (first | intro K ms hms hK | intro K hK)); (first | apply Chain.go | apply Chain.goD); exact rfl; exact rfl; refine Loc.callD (point pt hp) rfl ?_; (repeat (first | exact trivial | refine ⟨.inl rfl, ?_⟩ | refine ⟨.inr rfl, ?_⟩)))
  refine wk ?_
  ((try (first | intro K ms hms hK | intro K hK)); (first | apply Chain.go | apply Chain.goD); exact rfl; exact rfl; refine Loc.callG (ofA a ha) rfl ?_; (repeat (first | exact trivial | refine ⟨.inl rfl, ?_⟩ | refine ⟨.inr rfl, ?_⟩)))
  refine wk ?_
  ((try (first | intro K ms hms hK | intro K hK)); (first | apply Chain.go | apply Chain.goD); exact rfl; exact rfl; refine Loc.callD (point pt hp) rfl ?_; (repeat (first | exact trivial | refine ⟨.inl rfl, ?_⟩ | refine ⟨.inr rfl, ?_⟩)))
  ((try (first | intro K ms hms hK | intro K hK)); (first | apply Chain.go | apply Chain.goD); exact rfl; exact rfl; refine Loc.callT (hh) rfl ?_; (repeat (first | exact trivial | refine ⟨.inl rfl, ?_⟩ | refine ⟨.inr rfl, ?_⟩)))
  refine wk ?_
  ((try (first | intro K ms hms hK | intro K hK)); (first | apply Chain.go | apply Chain.goD); exact rfl; exact rfl; refine Loc.callD (goodY a ho) rfl ?_; (repeat (first | exact trivial | refine ⟨.inl rfl, ?_⟩ | refine ⟨.inr rfl, ?_⟩)))
  refine wk ?_
  ((try (first | intro K ms hms hK | intro K hK)); (first | apply Chain.go | apply Chain.goD); exact rfl; exact rfl; refine Loc.callD (awake9) rfl ?_; (repeat (first | exact trivial | refine ⟨.inl rfl, ?_⟩ | refine ⟨.inr rfl, ?_⟩)))
  refine wk ?_
  ((try (first | intro K ms hms hK | intro K hK)); (first | apply Chain.go | apply Chain.goD); exact rfl; exact rfl; refine Loc.callG (expr a.e ha) rfl ?_; (repeat (first | exact trivial | refine ⟨.inl rfl, ?_⟩ | refine ⟨.inr rfl, ?_⟩)))
  ((try (first | intro K ms hms hK | intro K hK)); (first | apply Chain.go | apply Chain.goD); exact rfl; exact rfl; refine Loc.callG (told8 (exN a.e) 256 (by omega) hs.c hs.t (by show (atN a).e.t.length ≤ _; omega)) rfl ?_; (repeat (first | exact trivial | refine ⟨.inl rfl, ?_⟩ | refine ⟨.inr rfl, ?_⟩)))
  refine wk ?_
  ((try (first | intro K ms hms hK | intro K hK)); (first | apply Chain.go | apply Chain.goD); exact rfl; exact rfl; refine Loc.callD (nums (ptN pt) 256 (by omega) (ptN_bd hp) (by have := ptN_len pt; omega)) rfl ?_; (repeat (first | exact trivial | refine ⟨.inl rfl, ?_⟩ | refine ⟨.inr rfl, ?_⟩)))
  ((try (first | intro K ms hms hK | intro K hK)); (first | apply Chain.go | apply Chain.goD); exact rfl; exact rfl; refine Loc.callG (hev) rfl ?_; (repeat (first | exact trivial | refine ⟨.inl rfl, ?_⟩ | refine ⟨.inr rfl, ?_⟩)))
  ((try (first | intro K ms hms hK | intro K hK)); (first | apply Chain.go | apply Chain.goD); exact rfl; exact rfl; refine Loc.callD (hsay) rfl ?_; (repeat (first | exact trivial | refine ⟨.inl rfl, ?_⟩ | refine ⟨.inr rfl, ?_⟩)))
  ((try (first | intro K ms hms hK | intro K hK)); (first | apply Chain.go | apply Chain.goD); exact rfl; exact rfl; exact Loc.neB rfl rfl rfl (by kernel_rfl) (bne_self_eq_false h))
  refine wk ?_
  ((try (first | intro K ms hms hK | intro K hK)); (first | apply Chain.go | apply Chain.goD); exact rfl; exact rfl; refine Loc.callG (ofA a ha) rfl ?_; (repeat (first | exact trivial | refine ⟨.inl rfl, ?_⟩ | refine ⟨.inr rfl, ?_⟩)))
  ((try (first | intro K ms hms hK | intro K hK)); (first | apply Chain.go | apply Chain.goD); exact rfl; exact rfl; refine Loc.callT (hcan) rfl ?_; (repeat (first | exact trivial | refine ⟨.inl rfl, ?_⟩ | refine ⟨.inr rfl, ?_⟩)))
  refine wk ?_
  ((try (first | intro K ms hms hK | intro K hK)); (first | apply Chain.go | apply Chain.goD); exact rfl; exact rfl; refine Loc.callT (hg) rfl ?_; (repeat (first | exact trivial | refine ⟨.inl rfl, ?_⟩ | refine ⟨.inr rfl, ?_⟩)))
  refine wk ?_
  ((try (first | intro K ms hms hK | intro K hK)); (first | apply Chain.go | apply Chain.goD); exact rfl; exact rfl; exact Loc.eqB rfl rfl rfl (by kernel_rfl) ((beq_self_eq_true h)))
  refine wk ?_
  exact ⟨.d rfl (.inl rfl), trivial⟩
theorem meansF9 (a : AN) (pt : List (Bool × List Nat × List Nat)) (ha : okEN a.e) (hp : okP pt) : Fn Try.prog 4 [.g (enAN a), .d (.l (pt.map enN))] [.d (.v (.bool true))] := by
  by_cases ho : okOp a.op
  · rcases lead_can (atN a).e with ⟨h1, h2⟩ | ⟨v, c, l, h1, h2⟩
    · exact meansNum a pt ha hp ho h1 h2
    · exact meansOpen a pt ha hp ho h2 (leadQ_ne h1).1
  · exact meansNo a pt ha hp ho
end Go.Proofs.Ytfijmpmojhlnmaa
