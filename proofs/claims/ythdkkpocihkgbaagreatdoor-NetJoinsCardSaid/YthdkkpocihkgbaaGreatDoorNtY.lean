/-
  The law attestlaw15.NetEvals.
-/
import Derived.Test.YthdkkpocihkgbaaGreatDoorNtX
import Derived.Test.YthdkkpocihkgbaaGreatDoorNtM
import Derived.Test.YthdkkpocihkgbaaGreatDoorNtU
namespace Go.Proofs.YthdkkpocihkgbaaGreatDoor
open Go.RowKit
section
variable {P : Program} {C : Cx} {o : Oper} {σ : AS}
/-- Is the field a slice? -/
def fieldOne (P : Program) (T : TypeId) (f : Nat) : Bool := match P.underlying T with
  | some (.struct fs) => (match fs[f]? with
    | some fd => (match P.underlying fd.type with
      | some (.slice _) => true
      | _ => false)
    | none => false)
  | _ => false
theorem Loc.fieldG {T f off : Nat} {x : Operand} {cs : List D} {c : D} (ho : o.op = .field T x f) (hx : ev σ x = .g cs) [h : Fl P T f off] (hB : fieldOne P T f = true) (hc : cs[off]? = some c) : Loc P C o σ (.d c) :=
  Loc.one (by rw [ho]; simp [Op.operands]) hx fun S w β O a h1 => by
    obtain ⟨us, hu, hr⟩ := h1
    obtain ⟨u, h3, h4⟩ := hr.at hc
    obtain ⟨fs, fd, q1, q2, q3, _⟩ := h.u
    unfold fieldOne at hB
    rw [q1] at hB
    simp only [q2] at hB
    cases hd : P.underlying fd.type with
    | none => rw [hd] at hB; cases hB
    | some d =>
      rw [hd] at hB
      cases d with
      | slice e => exact ⟨u, by unfold execOp; rw [ho]; simp [hu, Instr.field, run_underlying q1, q2, asAgg, part, isAgg, run_underlying hd, q3, h3], h4⟩
      | _ => cases hB
end
attribute [local irreducible] AC Do St
theorem onesN_ok {l : List (Bool × List Nat × List Nat)} : okP (onesN l) := fun n hn => by
  obtain ⟨m, _, rfl⟩ := List.mem_map.1 hn
  have hlow : ∀ l : List Nat, ∀ x ∈ lowN l, x < 4294967296 := fun l x hx => by
    obtain ⟨y, _, rfl⟩ := List.mem_map.1 hx
    have := Nat.mod_lt y (show 0 < 65536 by decide)
    omega
  exact ⟨hlow _, hlow _⟩
theorem lightL_ok (l : LQ) : okLQ (lightL l) := ⟨fun r hr => by
  obtain ⟨w, _, rfl⟩ := List.mem_map.1 hr
  exact onesN_ok, onesN_ok⟩
theorem low_val (l : List Nat) : dval 4294967296 ((lowN l).take 8) < 2 ^ 16 := by
  unfold lowN
  cases l with
  | nil => decide
  | cons x t =>
    have := Nat.mod_lt x (show 0 < 65536 by decide)
    simp [dval]
    omega
theorem bdOne (n : Bool × List Nat × List Nat) : Bd 16 (nQ (oneN n)) := by
  have h2 : dval 4294967296 (barL (lowN n.2.2)) < 2 ^ 16 := by
    unfold barL
    split
    · decide
    · exact low_val _
  exact Bd.made (Nat.pos_iff_ne_zero.1 (barL_pos _)) (low_val _) h2
theorem bdOnes {l : List (Bool × List Nat × List Nat)} : ∀ q ∈ ratsN (onesN l), Bd 16 q := fun q hq => by
  obtain ⟨n, hn, rfl⟩ := List.mem_map.1 hq
  obtain ⟨m, _, rfl⟩ := List.mem_map.1 (List.mem_of_mem_take hn)
  exact bdOne m
theorem lightGo_all : ∀ {ls : List LQ}, (lightGo ls).2 = true → (lightGo ls).1 = ls.map lightL
  | [], _ => rfl
  | l :: r, h => by
    unfold lightGo at h ⊢
    split
    · rename_i hb
      rw [if_pos hb] at h
      cases h
    · rename_i hb
      rw [if_neg hb] at h
      rw [lightGo_all h]
      rfl
theorem light_ok {n : Int} {ls : List LQ} (h : (lightQ n ls).2 = true) : (lightQ n ls).1 = ls.map lightL ∧ n ≤ 4 ∧ ls.length ≤ 3 := by
  unfold lightQ at h ⊢
  split
  · rename_i hb
    rw [if_pos hb] at h
    cases h
  · rename_i hb
    rw [if_neg hb] at h
    exact ⟨lightGo_all h, by omega, by omega⟩
/-- What is known of a light net. -/
theorem light_m (ls : List LQ) (h3 : ls.length ≤ 3) : (ofNs (ls.map lightL)).length ≤ 3 ∧ (∀ l ∈ ofNs (ls.map lightL), ∀ r ∈ l.W, ∀ q ∈ r, Bd 16 q) ∧ (∀ l ∈ ofNs (ls.map lightL), ∀ q ∈ l.B, Bd 16 q) ∧ ∀ l ∈ ofNs (ls.map lightL), smLN 16 l := by
  have hk : ∀ l ∈ ofNs (ls.map lightL), ∃ q : LQ, l = ofLN (lightL q) := fun l hl => by
    obtain ⟨x, hx, rfl⟩ := List.mem_map.1 hl
    obtain ⟨q, _, rfl⟩ := List.mem_map.1 (List.mem_of_mem_take hx)
    exact ⟨q, rfl⟩
  have hW : ∀ l ∈ ofNs (ls.map lightL), ∀ r ∈ l.W, r.length ≤ 1000000 ∧ ∀ q ∈ r, Bd 16 q := fun l hl r hr => by
    obtain ⟨q, rfl⟩ := hk l hl
    obtain ⟨x, hx, rfl⟩ := List.mem_map.1 hr
    obtain ⟨y, _, rfl⟩ := List.mem_map.1 (List.mem_of_mem_take hx)
    exact ⟨Nat.le_trans (ratsN_len _) (by decide), bdOnes⟩
  have hB : ∀ l ∈ ofNs (ls.map lightL), ∀ q ∈ l.B, Bd 16 q := fun l hl => by
    obtain ⟨q, rfl⟩ := hk l hl
    exact bdOnes
  refine ⟨by unfold ofNs; simp; omega, fun l hl r hr => (hW l hl r hr).2, hB, fun l hl => ⟨hW l hl, ?_, hB l hl, ?_⟩⟩
  · obtain ⟨q, rfl⟩ := hk l hl
    exact Nat.le_trans (ratsN_len _) (by decide)
  · obtain ⟨q, rfl⟩ := hk l hl
    unfold ofLN
    simp
    omega
theorem sz3 {n : Nat} (h : n ≤ 3) : szN 16 16 n ≤ 1500000 := Nat.le_trans (szN_mono 16 16 h) (by decide)
theorem trace_get : ∀ (x : List Rat) (ls : List LN) (i : Nat), i ≤ ls.length → (trace x ls)[i]? = some ((ls.take i).foldl (fun x l => stepN l x) x)
  | x, [], 0, _ => rfl
  | x, [], i + 1, h => by simp at h
  | x, l :: r, 0, _ => rfl
  | x, l :: r, i + 1, h => by
    rw [trace, List.getElem?_cons_succ, trace_get (stepN l x) r i (by simpa using h)]
    rfl
set_option maxRecDepth 100000 in
set_option maxHeartbeats 8000000 in
theorem netEvalsF {Kw : World → Prop} [KSt Kw] [KHas Kw MaxL] (n : Int) (ls : List LQ) (xs : List (Bool × List Nat × List Nat)) (hn : -9223372036854775808 ≤ n ∧ n ≤ 9223372036854775807) (hl : ∀ l ∈ ls, okLQ l) (hx : okP xs) : FnK Tryz.prog 5 Kw [.g (enQN n ls), .d (enNs xs)] [.d (.v (.bool true))] := by
  have hlt := lightF n ls hl
  have hon := onesF xs hx
  have e0 : ([] : List (List D)).length = 0 := rfl
  refine FnK.of Tryz.func5 rfl (by kernel_rfl) Tryz.ntmps5 Tryz.results5 rfl fun w0 S0 hK0 => ?_
  cases hL : lightQ n ls with
  | mk ls2 ok =>
  rw [hL] at hlt
  cases ok with
  | false =>
    refine wk ?_
    refine c1 hlt ?_
    refine wk ?_
    refine c1 hon ?_
    refine wk ?_
    refine c1 (awakeF (Kw := Kw)) ?_
    refine wk ?_
    exact ⟨.d rfl (.inl rfl), trivial⟩
  | true =>
  obtain ⟨e1, hn4, h3⟩ := light_ok (n := n) (ls := ls) (by rw [hL])
  rw [hL] at e1
  dsimp only at e1
  subst e1
  have hol : ∀ l ∈ ls.map lightL, okLQ l := fun l h => by
    obtain ⟨q, _, rfl⟩ := List.mem_map.1 h
    exact lightL_ok q
  have hof := of15F n (ls.map lightL) hol
  have hra := ratsF (onesN xs) onesN_ok
  obtain ⟨m3, mW, mB, mS⟩ := light_m ls h3
  have hsm := ofNs_sm hol
  have hbx := bdOnes (l := xs)
  have hxl := ratsN_len (onesN xs)
  generalize ofNs (ls.map lightL) = m at hof m3 mW mB mS hsm
  generalize ratsN (onesN xs) = x at hra hbx hxl
  have hsz := sz3 m3
  have htr := traceF (k := 16) (m := 16) n m x mW mB hbx (by omega)
  have hev := evalF (k := 16) (m := 16) n m x mW mB hbx (by omega)
  have htl := told15F n m 16 (by decide) mS (by omega)
  have hwd := widths15F n m (by omega) hn (fun l h => (hsm l h).2)
  have hnx := nums x 16 (by decide) hbx (by omega)
  unfold traceR at htr
  unfold evalR at hev
  unfold widsR at hwd
  by_cases hg : greatB n m = true
  · rw [if_pos hg] at htr hev hwd
    refine wk ?_
    refine c1 hlt ?_
    refine wk ?_
    refine c1 hon ?_
    refine wk ?_
    refine c1 hra ?_
    refine wk ?_
    refine c1 hof ?_
    refine wk ?_
    refine c1 hra ?_
    refine wk ?_
    refine c1 htr ?_
    refine wk ?_
    refine c1 hof ?_
    refine wk ?_
    refine c1 hra ?_
    refine wk ?_
    refine c1 hev ?_
    refine wk ?_
    refine c1 hof ?_
    refine wk ?_
    refine c1 htl ?_
    refine wk ?_
    refine c1 hwd ?_
    refine wk ?_
    refine c1 (awakeF (Kw := Kw)) ?_
    refine wk ?_
    exact ⟨.d rfl (.inl rfl), trivial⟩
  rw [if_neg hg] at htr hev hwd
  by_cases hf : m.foldl stW n ≤ 0
  · rw [if_pos hf] at htr hev hwd
    refine wk ?_
    refine c1 hlt ?_
    refine wk ?_
    refine c1 hon ?_
    refine wk ?_
    refine c1 hra ?_
    refine wk ?_
    refine c1 hof ?_
    refine wk ?_
    refine c1 hra ?_
    refine wk ?_
    refine c1 htr ?_
    refine wk ?_
    refine c1 hof ?_
    refine wk ?_
    refine c1 hra ?_
    refine wk ?_
    refine c1 hev ?_
    refine wk ?_
    refine c1 hof ?_
    refine wk ?_
    refine c1 htl ?_
    refine wk ?_
    refine c1 hwd ?_
    refine wk ?_
    refine c1 (awakeF (Kw := Kw)) ?_
    refine wk ?_
    exact ⟨.d rfl (.inl rfl), trivial⟩
  rw [if_neg hf] at htr hev hwd
  by_cases hc : (x.length : Int) ≠ n
  · rw [if_pos hc] at htr hev
    refine wk ?_
    refine c1 hlt ?_
    refine wk ?_
    refine c1 hon ?_
    refine wk ?_
    refine c1 hra ?_
    refine wk ?_
    refine c1 hof ?_
    refine wk ?_
    refine c1 hra ?_
    refine wk ?_
    refine c1 htr ?_
    refine wk ?_
    refine c1 hof ?_
    refine wk ?_
    refine c1 hra ?_
    refine wk ?_
    refine c1 hev ?_
    refine wk ?_
    refine c1 hof ?_
    refine wk ?_
    refine c1 htl ?_
    refine wk ?_
    refine c1 hwd ?_
    refine wk ?_
    refine c1 (awakeF (Kw := Kw)) ?_
    refine wk ?_
    exact ⟨.d rfl (.inl rfl), trivial⟩
  rw [if_neg hc] at htr hev
  have hc : (x.length : Int) = n := by omega
  rw [Bool.not_eq_true] at hg
  obtain ⟨g1, g2, g3⟩ := great_out hg
  have hpos : 0 < m.foldl stW n := by omega
  have hinv := trace_inv g2 g3 hpos hc mW mB hbx (by omega)
  have hev15 := eval15F (k := 16) (m := 16) n m x (by decide) hg hpos hc mW mB hbx (by omega)
  have htn : ((trace x m).map enRs).length = m.length + 1 := by rw [List.length_map, trace_len]
  have hgt : ∀ i, i ≤ m.length → ((trace x m).map enRs)[i]? = some (enRs ((m.take i).foldl (fun x l => stepN l x) x)) := fun i hi => by rw [List.getElem?_map, trace_get x m i hi]; rfl
  have hg0 := hgt 0 (Nat.zero_le _)
  rw [List.take_zero, List.foldl_nil] at hg0
  have hbi : ∀ i, i ≤ m.length → ∀ q ∈ (m.take i).foldl (fun x l => stepN l x) x, Bd 1500000 q := fun i hi q hq => (( hinv i hi).2.2 q hq).mono (Nat.le_trans (szN_mono 16 16 hi) hsz)
  have hni : ∀ i, i ≤ m.length → Fn Tryz.prog 24 [.d (enRs ((m.take i).foldl (fun x l => stepN l x) x))] [.d (enQs ((m.take i).foldl (fun x l => stepN l x) x))] := fun i hi => nums _ 1500000 (by decide) (hbi i hi) (by have := (hinv i hi).2.1; omega)
  have hny := hni m.length (Nat.le_refl _)
  have hby := hbi m.length (Nat.le_refl _)
  have hly := (hinv m.length (Nat.le_refl _)).2.1
  rw [List.take_of_length_le (Nat.le_refl _)] at hny hby hly
  have hr0 := ratsEF (k := 16) (m := 16) x x (by omega) hbx hbx (by omega)
  rw [decide_eq_true rfl] at hr0
  have hry := ratsEF (k := 1500000) (m := 1500000) _ _ (by omega) hby hby (by omega)
  rw [decide_eq_true rfl] at hry
  have hnx : Fn Tryz.prog 24 [.d (enRs x)] [.d (enQs x)] := hnx
  refine wk ?_
  refine c1 hlt ?_
  refine wk ?_
  refine c1 hon ?_
  refine wk ?_
  refine c1 hra ?_
  refine wk ?_
  refine c1 hof ?_
  refine wk ?_
  refine c1 hra ?_
  refine wk ?_
  refine c1 htr ?_
  refine wk ?_
  refine c1 hof ?_
  refine wk ?_
  refine c1 hra ?_
  refine wk ?_
  refine c1 hev ?_
  refine wk ?_
  refine c1 hof ?_
  refine wk ?_
  refine c1 htl ?_
  refine wk ?_
  refine c1 hwd ?_
  refine wk ?_
  refine c1 hof ?_
  refine wk ?_
  refine c1 (awakeF (Kw := Kw)) ?_
  refine wk ?_
  refine c1 hnx ?_
  refine wk ?_
  refine c1 hnx ?_
  refine wk ?_
  refine c1 hr0 ?_
  refine wk ?_
  refine c1 hny ?_
  refine wk ?_
  refine c1 htl ?_
  refine wk ?_
  refine c1 hnx ?_
  refine wk ?_
  refine c1 hev15 ?_
  refine wk ?_
  refine c1 hry ?_
  refine wk ?_
  refine c1 htl ?_
  refine wk ?_
  ((try (first | intro K ms hms hK | intro K hK)); (first | apply Chain.go | apply Chain.goD); exact rfl; exact rfl; exact Loc.fieldG rfl rfl (by kernel_rfl) rfl)
  refine wk ?_
  refine AC.loop (X := Nat) (fun i => ⟨[(7, .d (rowsD ((trace x m).map enRs))), (127, .d (.l (m.map enLD))), (128, .d (.v (.int .i64 (m.length : Int)))), (129, .d (.v (.int .i64 (i : Int))))], []⟩) (fun i => i ≤ m.length) (fun i => m.length - i) 0 (Nat.zero_le _) ⟨rfl, rfl, rfl, rfl, trivial⟩ trivial ?_
  intro i hi
  dsimp only
  refine wk ?_
  refine s1 (fun h5 => ?_) (fun h5 => ?_)
  · have hi' : i < m.length := by omega
    have hget : m[i]? = some m[i] := List.getElem?_eq_getElem hi'
    have hgi := hgt i hi
    have hgj := hgt (i + 1) hi'
    have hn0 := hni i hi
    have hn1 := hni (i + 1) hi'
    have hb1 := hbi (i + 1) hi'
    have hl1 := (hinv (i + 1) hi').2.1
    obtain ⟨a1, a2, a3⟩ := hinv i hi
    have hst := stW_pos hpos (i + 1)
    have hp := stW_pos hpos i
    have hfl : (m.take (i + 1)).foldl (fun x l => stepN l x) x = stepN m[i] ((m.take i).foldl (fun x l => stepN l x) x) := by rw [List.take_succ_eq_append_getElem hi', List.foldl_append]; rfl
    rw [List.take_succ_eq_append_getElem hi', List.foldl_append] at hst
    have hs := szN_mono 16 16 (i := i + 1) (j := m.length) (by omega)
    have b1 := g2 _ (List.getElem_mem hi')
    have b2 := mW _ (List.getElem_mem hi')
    have b3 := mB _ (List.getElem_mem hi')
    rw [hfl] at hgj hn1 hb1 hl1
    generalize m[i] = l at hget hst b1 b2 b3 hgj hn1 hb1 hl1
    generalize (m.take i).foldl (fun x l => stepN l x) x = y at a1 a2 a3 hgj hn1 hb1 hl1 hgi hn0
    generalize (m.take i).foldl stW n = w at hst hp a1
    simp only [List.foldl_cons, List.foldl_nil] at hst
    have e : stW w l = widN l w := if_pos hp
    rw [e, ← a1] at hst
    have f1 := step15F l y (by decide) b1 hst a2 b2 b3 a3 (Nat.le_trans hs (by omega))
    have hr1 := ratsEF (k := 1500000) (m := 1500000) _ _ (by omega) hb1 hb1 (by omega)
    rw [decide_eq_true rfl] at hr1
    refine wk ?_
    refine c1 hn1 ?_
    refine wk ?_
    refine c1 hn0 ?_
    refine wk ?_
    refine c1 f1 ?_
    refine wk ?_
    refine c1 hr1 ?_
    refine wk ?_
    exact ⟨i + 1, hi', by omega, ⟨rfl, rfl, rfl, rfl, trivial⟩, trivial⟩
  · refine wk ?_
    exact ⟨.d rfl (.inl rfl), trivial⟩
end Go.Proofs.YthdkkpocihkgbaaGreatDoor
