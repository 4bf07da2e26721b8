/-
 Texts in lines, words and counts.
-/
import Derived.Test.YthdkkpocihkgbaaGreatDoorNtG
namespace Go.Proofs.YthdkkpocihkgbaaGreatDoor
open Go.RowKit
attribute [local irreducible] AC Do St
theorem splitK_len (sep : List UInt8) : ∀ (fuel : Nat) (s : List UInt8), (Lib.splitK sep 0 (Lib.countFrom sep fuel s) s).length = Lib.countFrom sep fuel s + 1
 | 0, s => rfl
 | fuel + 1, s => by
  unfold Lib.countFrom
  by_cases h : (Lib.index s sep == -1) = true
  ·rw [if_pos h]
   rfl
  ·rw [if_neg h, Nat.add_comm 1]
   unfold Lib.splitK
   rw [if_neg h, List.length_cons, splitK_len sep fuel]
theorem countFrom_le (sep : List UInt8) : ∀ (fuel : Nat) (s : List UInt8), Lib.countFrom sep fuel s ≤ fuel
 | 0, _ => Nat.le_refl _
 | fuel + 1, s => by
  unfold Lib.countFrom
  split
  ·exact Nat.zero_le _
  ·have := countFrom_le sep fuel (s.drop ((Lib.index s sep).toNat + sep.length))
   omega
/-- The lines of a text. -/
def linesB (l : List UInt8) : List ByteArray := Lib.splitB (tx [10]) 0 (Lib.countB (tx l) (tx [10])) (tx l)
theorem linesB_len (l : List UInt8) : (linesB l).length = Lib.countB (tx l) (tx [10]) + 1 := by
 have h := congrArg List.length (Lib.splitB_data (tx [10]) 0 (Lib.countB (tx l) (tx [10])) (tx l))
 rw [List.length_map] at h
 unfold linesB
 rw [h]
 exact splitK_len [10] _ l
theorem splitF {Kw : World → Prop} [h : KHas Kw MaxL] (l : List UInt8) (hl : l.length ≤ 4000000000) : FnK Tryz.prog 64 Kw [.d (.v (.string (tx l))), .d (.v (.string (tx [10])))] [.d (rowsD ((linesB l).map fun s => .v (.string s)))] :=
 ⟨⟨_, Tryz.func64, by kernel_rfl, by kernel_rfl⟩, fun S w vs hK hS hv => by
  obtain ⟨u, v, rfl, ha, hb⟩ := hv.two
  have ha : RD S w u (.v (.string (tx l))) := ha
  have hb : RD S w v (.v (.string (tx [10]))) := hb
  cases ha
  cases hb
  obtain ⟨m, hm⟩ := h.has w hK
  refine (Tryz.strings_Split (tx l) (tx [10]) m w (by rw [tx_size]; omega) hm (by decide)).mono ?_
  rintro e w' ⟨rfl, rfl⟩
  have hn := linesB_len l
  refine ⟨_, rfl, (Below.refl _ _).al _, ?_⟩
  show RD _ _ _ _
  rw [← hn]
  change RD _ (w.alloc (.cells ((linesB l).map Value.string).toArray _)) _ _
  have hle : (linesB l).length ≤ l.length + 2 := by
   rw [hn]
   have := countFrom_le [10] (l.length + 1) l
   show Lib.countFrom [10] (l.length + 1) l + 1 ≤ _
   omega
  refine RD.ofCells (k := 1) (css := (linesB l).map fun s => [.string s]) (by simp) (Nat.le_refl _) (by rw [show maxLen = 9223372036854775807 from rfl]; omega) (by simp) ?_ ?_ fun _ => ⟨w.heap.size, 0, rfl, ⟨.inr (Nat.le_refl _), by simp⟩, ?_⟩
  ·intro i h
   simp
  ·intro i h1 h2
   simp only [List.getElem_map]
   exact ⟨rfl, fun j a b => by
    match j, a with
    | 0, _ => exact .v rfl⟩
  ·intro i h1 j v hv
   simp only [List.getElem_map] at hv
   match j, hv with
   | 0, hv =>
    cases hv
    rw [List.length_map] at h1
    rw [World.cell?_alloc_new]
    simp [h1]⟩
def digS : List UInt8 := [48, 49, 50, 51, 52, 53, 54, 55, 56, 57]
theorem digS_mem (c : UInt8) : digS.contains c = true ↔ DigC c := by
 unfold DigC digS
 rw [List.contains_iff_mem]
 constructor
 ·intro h
  simp only [List.mem_cons, List.not_mem_nil, or_false] at h
  rcases h with h | h | h | h | h | h | h | h | h | h <;> rw [h] <;> decide
 ·intro ⟨h1, h2⟩
  have h3 : c.toNat = 48 ∨ c.toNat = 49 ∨ c.toNat = 50 ∨ c.toNat = 51 ∨ c.toNat = 52 ∨ c.toNat = 53 ∨ c.toNat = 54 ∨ c.toNat = 55 ∨ c.toNat = 56 ∨ c.toNat = 57 := by omega
  have e : ∀ n : Nat, n < 256 → c.toNat = n → c = UInt8.ofNat n := fun n hn h => UInt8.toNat_inj.1 (by rw [h, UInt8.toNat_ofNat']; omega)
  rcases h3 with h | h | h | h | h | h | h | h | h | h <;> rw [e _ (by omega) h] <;> decide
theorem dropW_nil {α : Type} (p : α → Bool) (l : List α) : l.dropWhile p = [] ↔ ∀ x ∈ l, p x = true := by
 induction l with
 | nil => simp
 | cons a l ih =>
  rw [List.dropWhile_cons]
  cases h : p a
  ·simp [h]
  ·simp [h, ih]
theorem trim_dig (l : List UInt8) : Lib.trimS l digS = [] ↔ ∀ c ∈ l, DigC c := by
 unfold Lib.trimS Lib.trimLeftS Lib.trimRightS
 rw [dropW_nil]
 constructor
 ·intro h
  have h0 : l.reverse.dropWhile (digS.contains ·) = [] := by
   by_cases e : l.reverse.dropWhile (digS.contains ·) = []
   ·exact e
   ·have h1 := List.head_dropWhile_not (digS.contains ·) e
    have h2 := h _ (List.mem_reverse.2 (List.head_mem e))
    rw [h1] at h2
    cases h2
  rw [dropW_nil] at h0
  exact fun c hc => (digS_mem c).1 (h0 c (List.mem_reverse.2 hc))
 ·intro h c hc
  have := List.mem_reverse.1 hc
  exact (digS_mem c).2 (h c (List.mem_reverse.1 ((List.dropWhile_sublist _).subset this)))
theorem decFrom_val (l : List UInt8) (h : ∀ c ∈ l, DigC c) (a : Nat) : Lib.decFrom a l = some (valF a l) := by
 induction l generalizing a with
 | nil => rfl
 | cons c l ih =>
  have h1 : DigC c := h c List.mem_cons_self
  unfold DigC at h1
  have h2 : Lib.digitVal c = some (c.toNat - 48) := if_pos h1
  unfold Lib.decFrom
  rw [h2]
  exact ih (fun x hx => h x (List.mem_cons_of_mem _ hx)) _
theorem atoi_val (l : List UInt8) (h0 : l ≠ []) (h : ∀ c ∈ l, DigC c) : Lib.atoi l = some (valF 0 l : Int) := by
 cases l with
 | nil => exact absurd rfl h0
 | cons c l =>
  have h1 : DigC c := h c List.mem_cons_self
  unfold DigC at h1
  have e1 : (c == 45) = false := beq_false_of_ne fun e => by rw [e] at h1; exact absurd h1 (by decide)
  have e2 : (c == 43) = false := beq_false_of_ne fun e => by rw [e] at h1; exact absurd h1 (by decide)
  simp only [Lib.atoi, e1, e2, Bool.false_eq_true, if_false, Lib.decNat, List.isEmpty_cons, decFrom_val _ h, Option.map_some]
theorem trimDF (l : List UInt8) (hl : l.length ≤ 4000000000) : Fn Tryz.prog 181 [.d (.v (.string (tx l))), .d (.v (.string (tx digS)))] [.d (.v (.string (tx (Lib.trimS l digS))))] :=
 ⟨⟨_, Tryz.func181, by kernel_rfl, by kernel_rfl⟩, fun S w vs hS hv => by
  obtain ⟨u, v, rfl, ha, hb⟩ := hv.two
  have ha : RD S w u (.v (.string (tx l))) := ha
  have hb : RD S w v (.v (.string (tx digS))) := hb
  cases ha
  cases hb
  refine (Tryz.strings_Trim_laid (tx l) (tx digS) w (by rw [tx_size]; omega) (by decide) (fun j b h => ?_)).mono ?_
  ·have h1 := (digS_mem b).1 (List.contains_iff_mem.2 (List.mem_of_getElem? (show digS[j]? = some b from h)))
   unfold DigC at h1
   omega
  ·rintro e w' ⟨rfl, hb⟩
   exact ⟨_, rfl, hb, (RD.v rfl : RD _ _ _ _)⟩⟩
section
variable {P : Program} {C : Cx} {o : Oper} {σ : AS}
theorem Loc.strNe {T T' : TypeId} {x y : Operand} {s t : ByteArray} {r : Bool} (ho : o.op = .binOp .neq T x y T') (hx : ev σ x = .d (.v (.string s))) (hy : ev σ y = .d (.v (.string t))) (hr : (!(s.toList == t.toList)) = r) : Loc P C o σ (.d (.v (.bool r))) :=
 Loc.two (by rw [ho]; simp [Op.operands]) hx (by rw [ho]; simp [Op.operands]) hy fun S w β O c h1' h2' => by
  refine ⟨.bool r, ?_, .mk rfl⟩
  unfold execOp; rw [ho]
  have hg : (eqGuard .neq T x y (.string s) (.string t)).run P w = .ok () w := by
   unfold eqGuard
   simp
  subst hr
  simp [RA.val h1', RA.val h2', hg, binOp, Op.stringOp]
theorem Loc.nilEq {T T' : TypeId} {x : Operand} (ho : o.op = .binOp .eql T x (.const .nilIface) T') (hx : ev σ x = .d (.v .nilIface)) (hT : ∀ w, (Op.equal T .nilIface .nilIface).run P w = .ok true w) : Loc P C o σ (.d (.v (.bool true))) :=
 Loc.one (X := x) (by rw [ho]; simp [Op.operands]) hx fun S w β O c h1' => by
  refine ⟨.bool true, ?_, .mk rfl⟩
  unfold execOp; rw [ho]
  have hg : (eqGuard .eql T x (.const .nilIface) .nilIface .nilIface).run P w = .ok () w := by
   unfold eqGuard
   simp
  have h2 : c.eval (.const .nilIface) = .nilIface := rfl
  simp [RA.val h1', h2, hg, binOp, hT]
end
theorem atoiF (l : List UInt8) (h0 : l ≠ []) (h : ∀ c ∈ l, DigC c) (hl : l.length ≤ 18) : Fn Tryz.prog 182 [.d (.v (.string (tx l)))] [.d (.v (.int .i64 (valF 0 l : Int))), .d (.v .nilIface)] :=
 ⟨⟨_, Tryz.func182, by kernel_rfl, by kernel_rfl⟩, fun S w vs hS hv => by
  obtain ⟨u, rfl, ha⟩ := hv.one
  have ha : RD S w u (.v (.string (tx l))) := ha
  cases ha
  refine (Tryz.strconv_Atoi (tx l) (valF 0 l : Int) (by rw [tx_size]; exact hl) (atoi_val l h0 h) w).mono ?_
  rintro e w' ⟨rfl, t, rfl⟩
  refine ⟨_, rfl, Lib.bytesWorld_below _ _ _, ⟨_, rfl, rfl, fun i h h' => ?_⟩⟩
  match i, h with
  | 0, _ => exact .v rfl
  | 1, _ => exact .v rfl⟩
/-- A count: at most six digits. -/
def cntN (l : List UInt8) : Option Nat := if l.length ≤ 6 ∧ ∀ c ∈ l, DigC c then some (valF 0 l) else none
def cntR : Option Nat → List DV
 | some n => [.d (.v (.int .i64 (n : Int))), .d (.v (.bool true))]
 | none => [.d (.v (.int .i64 0)), .d (.v (.bool false))]
set_option maxRecDepth 100000 in
set_option maxHeartbeats 2000000 in
theorem countF (l : List UInt8) (h0 : l ≠ []) (hl : l.length ≤ 4000000000) : Fn Tryz.prog 127 [.d (.v (.string (tx l)))] (cntR (cntN l)) := by
 refine Fn.of Tryz.func127 rfl (by kernel_rfl) Tryz.ntmps127 Tryz.results127 rfl fun w0 S0 => ?_
 unfold cntN
 refine wk ?_
 ((try (first | intro K ms hms hK | intro K hK)); (first | apply Chain.go | apply Chain.goD); exact rfl; exact rfl; exact Loc.strLen rfl rfl (by kernel_rfl))
 rw [tx_size]
 by_cases h1 : l.length ≤ 6
 ·refine wk ?_
  refine c1 (trimDF l hl) ?_
  by_cases h2 : ∀ c ∈ l, DigC c
  ·rw [(trim_dig l).2 h2]
   ((try (first | intro K ms hms hK | intro K hK)); (first | apply Chain.go | apply Chain.goD); exact rfl; exact rfl; exact Loc.strNe (r := false) rfl rfl rfl (by rw [txE]; rfl))
   refine wk ?_
   refine c1 (atoiF l h0 h2 (by omega)) ?_
   refine wk ?_
   ((try (first | intro K ms hms hK | intro K hK)); (first | apply Chain.go | apply Chain.goD); exact rfl; exact rfl; exact Loc.nilEq rfl rfl (fun w => by rfl))
   refine wk ?_
   rw [if_pos ⟨h1, h2⟩]
   exact ⟨.d rfl (.inl rfl), .d rfl (.inl rfl), trivial⟩
  ·((try (first | intro K ms hms hK | intro K hK)); (first | apply Chain.go | apply Chain.goD); exact rfl; exact rfl; exact Loc.strNe (r := true) rfl rfl rfl (by rw [txN fun e => h2 ((trim_dig l).1 e)]; rfl))
   refine wk ?_
   rw [if_neg fun h => h2 h.2]
   exact ⟨.d rfl (.inl rfl), .d rfl (.inl rfl), trivial⟩
 ·refine wk ?_
  rw [if_neg fun h => h1 h.1]
  exact ⟨.d rfl (.inl rfl), .d rfl (.inl rfl), trivial⟩
/-- A space between words. -/
def spaR (x : Nat) : Bool := decide (x = 32) || (decide (x = 9) || decide (x = 13))
set_option maxRecDepth 100000 in
set_option maxHeartbeats 2000000 in
theorem parse1F (x : Nat) : Fn Tryz.prog 66 [.d (.v (.int .i32 (x : Int)))] [.d (.v (.bool (spaR x)))] := by
 refine Fn.of Tryz.func66 rfl (by kernel_rfl) Tryz.ntmps66 Tryz.results66 rfl fun w0 S0 => ?_
 unfold spaR
 refine wk ?_
 by_cases h1 : x = 32
 ·rw [decide_eq_true h1]
  refine wk ?_
  exact ⟨.d rfl (.inl rfl), trivial⟩
 ·rw [decide_eq_false h1]
  by_cases h2 : x = 9
  ·rw [decide_eq_true h2]
   refine wk ?_
   exact ⟨.d rfl (.inl rfl), trivial⟩
  ·rw [decide_eq_false h2]
   by_cases h3 : x = 13
   ·rw [decide_eq_true h3]
    refine wk ?_
    exact ⟨.d rfl (.inl rfl), trivial⟩
   ·rw [decide_eq_false h3]
    refine wk ?_
    exact ⟨.d rfl (.inl rfl), trivial⟩
/-- The words of a line. -/
def wordsB (s : ByteArray) : List ByteArray := Lib.goFieldsP spaR s
theorem fieldsF (s : ByteArray) (hl : s.size ≤ 4000000000) : Fn Tryz.prog 65 [.d (.v (.string s)), .d (.v (.func (.func 66) #[] #[]))] [.d (rowsD ((wordsB s).map fun s => .v (.string s)))] :=
 ⟨⟨_, Tryz.func65, by kernel_rfl, by kernel_rfl⟩, fun S w vs hS hv => by
  obtain ⟨u, v, rfl, ha, hb⟩ := hv.two
  have ha : RD S w u (.v (.string s)) := ha
  have hb : RD S w v (.v (.func (.func 66) #[] #[])) := hb
  cases ha
  cases hb
  refine (Tryz.strings_FieldsFunc_grows 66 #[] (enters_of Tryz.func66 (by kernel_rfl) rfl) spaR s w (by omega) fun W x _ hW => ?_).mono ?_
  ·refine ((parse1F x).run (fun _ => False) W [.int .i32 (x : Int)] (fun _ h => h.elim) ⟨rfl, fun i h h' => ?_⟩).mono ?_
   ·match i, h with
    | 0, _ => exact RD.v rfl
   ·rintro e w' ⟨v, rfl, h2, h3⟩
    have h3 : RD _ _ v (.v (.bool (spaR x))) := h3
    cases h3
    exact ⟨rfl, h2⟩
  ·rintro e w' ⟨A, rfl, hA, ⟨hlen, hown⟩, hb⟩
   have hwl : ((wordsB s).map Value.string).length = (wordsB s).length := List.length_map ..
   refine ⟨_, rfl, hb, ?_⟩
   show RD _ _ _ _
   rcases hown with ⟨h1, h2⟩ | ⟨g, cap, cur, h1, h2, h3, h4, h5, h6, h7⟩
   ·cases h1
   ·cases h1
    refine RD.ofCells (k := 1) (css := (wordsB s).map fun s => [.string s]) (by simp [wordsB]) h4 h5 (by simp) ?_ ?_ fun _ => ⟨A, 0, rfl, ⟨.inr hA, ?_⟩, ?_⟩
    ·intro i h
     simp
    ·intro i h1 h2
     simp only [List.getElem_map]
     exact ⟨rfl, fun j a b => by
      match j, a with
      | 0, _ => exact .v rfl⟩
    ·rcases Nat.lt_or_ge A w'.heap.size with h | h
     ·exact h
     ·rw [Array.getElem?_eq_none h] at h3
      cases h3
    ·intro i h1 j v hv
     simp only [List.getElem_map] at hv
     match j, hv with
     | 0, hv =>
      cases hv
      rw [List.length_map] at h1
      have e : (cur.toList.take ((wordsB s).length * 1))[i]? = some (Value.string (wordsB s)[i]) := by
       have := congrArg (fun z => z[i]?) h7
       simp only [List.getElem?_map] at this
       rw [show (Lib.goFieldsP spaR s).length = (wordsB s).length from rfl, show Lib.goFieldsP spaR s = wordsB s from rfl, List.getElem?_eq_getElem h1] at this
       exact this
      rw [List.getElem?_take, if_pos (by omega)] at e
      show World.cell? _ _ = _
      unfold World.cell?
      rw [h3]
      simpa using e⟩
end Go.Proofs.YthdkkpocihkgbaaGreatDoor
