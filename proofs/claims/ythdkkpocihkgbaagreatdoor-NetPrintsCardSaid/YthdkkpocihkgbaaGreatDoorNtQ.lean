/-
 net.Parse: the network of a text.
-/
import Derived.Test.YthdkkpocihkgbaaGreatDoorNtP
namespace Go.Proofs.YthdkkpocihkgbaaGreatDoor
open Go.RowKit
section
variable {P : Program} {C : Cx} {σ : AS}
/-- What is said of a thing of one's own, in another way. -/
theorem Chain.convO {ops : Array Oper} {fin : List Inf → Prop} {Q : AS → Prop} {rest : List Oper} (id : Nat) {x : Value} {R : (Nat → Prop) → World → Prop} (R' : (Nat → Prop) → World → Prop) (hO : get? σ.objs id = some (.own x R)) (hst : RStable x R') (hR : ∀ S w, R S w → R' S w) (h : Chain P C ops fin Q none rest ⟨σ.env, (id, .own x R') :: σ.objs⟩) : Chain P C ops fin Q none rest σ :=
 .weak _ (fun a w ⟨β, hi⟩ => by
  obtain ⟨hx, h1, _⟩ := hi.obj id _ hO
  have h2 := hi.own' id _ hO R' (hR _ _ h1) (by rw [hx]; exact hst)
  rw [hx] at h2
  exact ⟨β, h2⟩) h
theorem boxR_nilV {b j : Nat} {T : TypeId} {cs : List D} (hj : cs[j]? = some .n) (S : Nat → Prop) (w : World) (h : boxR b T cs S w) : boxR b T (cs.set j (.v nil3)) S w := by
 obtain ⟨us, h1, h2⟩ := h
 exact ⟨us, h1, h2.nilV hj⟩
end
attribute [local irreducible] AC Do St
theorem lineF (b : Nat) (xL xW xB xG : Value) (s : NS) (hP : Plc xL (s.ls.length + s.last.toList.length)) (hnil : s.last = none → xL = nil3 ∧ xW = nil3 ∧ xB = nil3 ∧ xG = nil3) (hwf : s.wf 1000000) (h : List UInt8) (t : List (List UInt8)) (first : Bool) (hw : ∀ x ∈ h :: t, x ≠ [] ∧ x.length ≤ 20000) (ht : t.length ≤ 1000000000) :
  FnO Tryz.prog 67 MaxL (netP b xL xW xB xG s) (NS.args b h t first) (lineQ b s h t first) := by
 obtain ⟨w1, w2, w3⟩ := hwf
 have hw' : ∀ x ∈ t, x ≠ [] ∧ x.length ≤ 20000 := fun x hx => hw x (List.mem_cons_of_mem _ hx)
 obtain ⟨inn, ls, last⟩ := s
 cases last with
 | none =>
  obtain rfl : ls = [] := w2 rfl
  obtain ⟨rfl, rfl, rfl, rfl⟩ := hnil rfl
  by_cases n1 : h = bNet
  ·subst n1; exact line0net b inn t first hw' ht
  by_cases n2 : h = bAff
  ·subst n2; exact line0aff b inn t first hw' ht
  by_cases n3 : h = bRel
  ·subst n3; exact line0rel b inn t first hw' ht
  by_cases n4 : h = bMax
  ·subst n4; exact line0max b inn t first hw' ht
  by_cases n5 : h = bRow
  ·subst n5; exact line0row b inn t first hw' ht
  by_cases n6 : h = bOf
  ·subst n6; exact line0of b inn t first hw' ht
  exact line0oth b h inn t first hw' ht n1 n2 n3 n4 n5 n6
 | some l =>
  obtain ⟨bL, cL, rfl⟩ : ∃ bL cL, xL = slv bL (ls.length + 1) cL := by
   rcases hP with ⟨h, _⟩ | h
   ·simp at h
   ·exact h
  obtain ⟨g1, g2, g3⟩ := w3 l rfl
  have w1 : ls.length ≤ 1000000 := w1
  by_cases n1 : h = bNet
  ·subst n1; exact line1net b xW xB xG inn ls l t first bL cL w1 g1 g2 g3 hw' ht
  by_cases n2 : h = bAff
  ·subst n2; exact line1aff b xW xB xG inn ls l t first bL cL w1 g1 g2 g3 hw' ht
  by_cases n3 : h = bRel
  ·subst n3; exact line1rel b xW xB xG inn ls l t first bL cL w1 g1 g2 g3 hw' ht
  by_cases n4 : h = bMax
  ·subst n4; exact line1max b xW xB xG inn ls l t first bL cL w1 g1 g2 g3 hw' ht
  by_cases n5 : h = bRow
  ·subst n5; exact line1row b xW xB xG inn ls l t first bL cL w1 g1 g2 g3 hw' ht
  by_cases n6 : h = bOf
  ·subst n6; exact line1of b xW xB xG inn ls l t first bL cL w1 g1 g2 g3 hw' ht
  exact line1oth b h xW xB xG inn ls l t first bL cL w1 g1 g2 g3 hw' ht n1 n2 n3 n4 n5 n6
theorem lineS_wf {s s' : NS} {h : List UInt8} {t : List (List UInt8)} {first : Bool} {n : Nat} (hs : s.wf n) (hl : lineS s h t first = some s') : s'.wf (n + 1) := by
 obtain ⟨w1, w2, w3⟩ := hs
 have w3' : ∀ l, s.last = some l → l.W.length ≤ n + 1 ∧ l.B.length ≤ n + 1 ∧ l.G.length ≤ n + 1 := fun l hl => by
  obtain ⟨a, b, c⟩ := w3 l hl
  omega
 unfold lineS at hl
 split at hl
 ·split at hl
  ·split at hl
   ·split at hl
    ·cases hl
     exact ⟨by show s.ls.length ≤ _; omega, w2, w3'⟩
    ·cases hl
   ·cases hl
  ·cases hl
 ·split at hl
  ·split at hl
   ·cases hl
    refine ⟨?_, (fun h => nomatch h), fun l h => by cases h; simp⟩
    show (s.ls ++ s.last.toList).length ≤ _
    cases s.last <;> simp <;> omega
   ·cases hl
  ·split at hl
   ·split at hl
    ·rename_i l hl1
     obtain ⟨a, b, c⟩ := w3 l hl1
     split at hl
     ·split at hl
      ·split at hl
       ·cases hl
        exact ⟨by show s.ls.length ≤ _; omega, (fun h => nomatch h), fun l h => by cases h; simp; omega⟩
       ·cases hl
      ·cases hl
     ·cases hl
    ·cases hl
   ·split at hl
    ·split at hl
     ·rename_i l hl1
      obtain ⟨a, b, c⟩ := w3 l hl1
      split at hl
      ·split at hl
       ·cases hl
        exact ⟨by show s.ls.length ≤ _; omega, (fun h => nomatch h), fun l h => by cases h; simp; omega⟩
       ·cases hl
      ·cases hl
     ·cases hl
    ·cases hl
/-- The lines of a text, one after another; else the number of the one that is wrong. -/
def parseGo : Nat → NS → Bool → List (List UInt8) → NS ⊕ Nat
 | _, s, _, [] => .inl s
 | i, s, first, l :: r => match wordsN l with
  | [] => parseGo (i + 1) s first r
  | h :: t => if h.head? = some 35 then parseGo (i + 1) s first r else match lineS s h t first with
   | none => .inr (i + 1)
   | some s' => parseGo (i + 1) s' false r
/-- The network of a text; the line that is wrong; the error. -/
def parseT (l : List UInt8) : (Int × List LN) × Nat × Int :=
 if 1000000 < l.length then ((0, []), 0, 2) else match parseGo 0 ⟨0, [], none⟩ true (linesN l) with
 | .inr k => ((0, []), k, 3)
 | .inl s => if greatB s.inn s.all = true then ((0, []), 0, 2) else if s.all.foldl stW s.inn ≤ 0 then ((0, []), 0, 4) else ((s.inn, s.all), 0, 0)
def parseRes (x : (Int × List LN) × Nat × Int) : List DV := [.g (enNet x.1.1 x.1.2), .d (.v (.int .i64 (x.2.1 : Int))), .d (.v (.int .i64 x.2.2))]
theorem maxL_O {C : Cx} {σ : AS} {pre : List (Value × Rel)} (is : List Nat) (hl : is.length = pre.length) (hO : ∀ j (h : j < pre.length) (h' : j < is.length), get? σ.objs is[j] = some (.own pre[j].1 pre[j].2)) (h0 : MaxL C.w0) (hm : C.m = []) : ∀ β a w, Inv C σ β a w → ∀ w', FrO (pre.map (·.1)) w w' → MaxL w' := fun β a w hi w' hf => by
 obtain ⟨m, h⟩ := h0
 obtain ⟨_, _, _, _, hf⟩ := hf
 have hb : C.w0.heap[0]? ≠ none := fun e => by
  unfold World.cell? at h
  simp only [e] at h
  cases h
 have hlt : 0 < C.w0.heap.size := by
  rcases Nat.lt_or_ge 0 C.w0.heap.size with h | h
  ·exact h
  ·exact absurd (Array.getElem?_eq_none h) hb
 have hM : ∀ c, ¬ C.M c := fun c ⟨x, hx, _⟩ => by rw [hm] at hx; cases hx
 have e1 := hi.fr _ hlt (hM _)
 have e2 := hf _ (Nat.lt_of_lt_of_le hlt hi.size) fun x hx e => by
  obtain ⟨y, hy, rfl⟩ := List.mem_map.1 hx
  obtain ⟨j, hj, rfl⟩ := List.getElem_of_mem hy
  have hO' := hO j hj (by omega)
  have := (hi.own _ _ _ hO' (by rw [(hi.obj _ _ hO').1]; exact e)).1
  rcases this with h | h
  ·exact hM _ h
  ·omega
 refine ⟨m, ?_⟩
 exact (World.cell?_of_block (a := ⟨0, 0, none⟩) (e2.trans e1)).trans h
theorem rows_mapD {α : Type} (l : List α) (f : α → D) : rowsD (l.map f) = .l (l.map fun x => [f x]) := by
 unfold rowsD
 rw [List.map_map]
 rfl
theorem linesE (l : List UInt8) : rowsD ((linesB l).map fun s => .v (.string s)) = wordsE (linesN l) := by
 rw [linesB_eq, List.map_map, rows_mapD]
 rfl
theorem wordsBE (l : List UInt8) : rowsD ((wordsB (tx l)).map fun s => .v (.string s)) = wordsE (wordsN l) := by
 rw [wordsB_eq, List.map_map, rows_mapD]
 rfl
/-- The net's own things, under their numbers. -/
theorem netO_get {b : Nat} {xL xW xB xG : Value} {s : NS} {O : List (Nat × AO)} (h0 : get? O 5 = some (boxO b 25 [.v (.int .i64 s.inn), .v xL])) (h1 : get? O 50 = some (rowO xL 30 4 (rowsOf s xW xB xG))) (h2 : get? O 51 = some (rowO xW 27 1 (lastW s))) (h3 : get? O 52 = some (rowO xB 119 3 (lastB s))) (h4 : get? O 53 = some (rowO xG 31 1 (lastG s))) : ∀ j (h : j < (netP b xL xW xB xG s).length) (h' : j < [5, 50, 51, 52, 53].length), get? O [5, 50, 51, 52, 53][j] = some (.own (netP b xL xW xB xG s)[j].1 (netP b xL xW xB xG s)[j].2) := fun j h _ => by
 match j, h with
 | 0, _ => exact h0
 | 1, _ => exact h1
 | 2, _ => exact h2
 | 3, _ => exact h3
 | 4, _ => exact h4
 | j + 5, h => exact absurd h (by simp [netP])
theorem wordsN_len (l : List UInt8) : (wordsN l).length ≤ l.length + 1 := wordsGo_len l []
theorem wf_up {s : NS} {n m : Nat} (h : s.wf n) (hm : n ≤ m) : s.wf m := ⟨Nat.le_trans h.1 hm, h.2.1, fun l hl => by have := h.2.2 l hl; omega⟩
theorem len5 {α : Type} {l : List α} (h : l.length = 5) : ∃ a b c d e, l = [a, b, c, d, e] := by
 match l, h with
 | [a, b, c, d, e], _ => exact ⟨a, b, c, d, e, rfl⟩
theorem rowR_put1 {x1 x0 : Value} {e1 e : TypeId} {k1 k j : Nat} {ls : List LN} {c : List D} {ys : List (List D)} (hj : c[j]? = some (.v x0)) (S : Nat → Prop) (w : World) (h0 : rowR x0 e k ys S w) (hb : ∀ b, blk x0 = some b → S b) (h : rowR x1 e1 k1 (ls.map enLN ++ [c]) S w) : rowR x1 e1 k1 (ls.map enLN ++ [c.set j (.l ys)]) S w := by
 have := rowR_put (i := ls.length) (rows_get ls c) hj S w h0 hb h
 rwa [rows_set] at this
theorem rows_all (inn : Int) (ls : List LN) (l : LN) : ls.map enLN ++ [[.v (.int .i64 l.kind), .l (lastW ⟨inn, ls, some l⟩), .l (lastB ⟨inn, ls, some l⟩), .l (lastG ⟨inn, ls, some l⟩)]] = (ls ++ [l]).map enLN := by
 simp [enLN, lastW, lastB, lastG, rowsD, enRs]
section
variable {P : Program} {C : Cx} {σ : AS}
/-- The net's own things become data. -/
theorem Chain.frzNet {ops : Array Oper} {fin : List Inf → Prop} {Q : AS → Prop} {rest : List Oper} {b : Nat} {xL xW xB xG : Value} {s : NS} (hwf : s.last = none → s.ls = []) (h0 : get? σ.objs 5 = some (boxO b 25 [.v (.int .i64 s.inn), .v xL])) (h1 : get? σ.objs 50 = some (rowO xL 30 4 (rowsOf s xW xB xG))) (h2 : get? σ.objs 51 = some (rowO xW 27 1 (lastW s))) (h3 : get? σ.objs 52 = some (rowO xB 119 3 (lastB s))) (h4 : get? σ.objs 53 = some (rowO xG 31 1 (lastG s)))
  (k : ∀ O', (∀ i, i ≠ 5 → i < 50 → get? O' i = get? σ.objs i) → get? O' 5 = some (boxO b 25 (enNet s.inn s.all)) → Chain P C ops fin Q none rest ⟨σ.env, O'⟩) : Chain P C ops fin Q none rest σ := by
 have hlow : ∀ (x : AO) (i j : Nat) (O : List (Nat × AO)), i < 50 → 50 ≤ j → get? ((j, x) :: O) i = get? O i := fun x i j O h1 h2 => by rw [get?_cons, if_neg (by omega)]
 have h5 : ∀ (x : AO) (i : Nat) (O : List (Nat × AO)), i ≠ 5 → get? ((5, x) :: O) i = get? O i := fun x i O h1 => by rw [get?_cons, if_neg (Ne.symm h1)]
 obtain ⟨inn, ls, last⟩ := s
 cases last with
 | none =>
  obtain rfl : ls = [] := hwf rfl
  refine Chain.frzIn 5 50 (boxR b 25 (enNet inn [])) (by decide) h1 h0 (boxR_stable _ _ _) (fun S w h0 hb h => boxR_put (cs := [.v (.int .i64 inn), .v xL]) (j := 1) rfl S w h0 hb h) ?_
  exact k _ (fun i g1 g2 => by rw [h5 _ _ _ g1, hlow _ _ _ _ g2 (by omega)]) (by rw [get?_cons, if_pos rfl]; rfl)
 | some l =>
  refine Chain.frzIn 50 51 (rowR xL _ 4 (ls.map enLN ++ [[D.v (.int .i64 l.kind), D.l (lastW ⟨inn, ls, some l⟩), D.v xB, D.v xG]])) (by decide) h2 h1 (rowR_stable _ _ _ _) (fun S w h0 hb h => rowR_put1 (c := [D.v (.int .i64 l.kind), D.v xW, D.v xB, D.v xG]) (j := 1) rfl S w h0 hb h) ?_
  refine Chain.frzIn 50 52 (rowR xL _ 4 (ls.map enLN ++ [[D.v (.int .i64 l.kind), D.l (lastW ⟨inn, ls, some l⟩), D.l (lastB ⟨inn, ls, some l⟩), D.v xG]])) (by decide) h3 rfl (rowR_stable _ _ _ _) (fun S w h0 hb h => rowR_put1 (c := [D.v (.int .i64 l.kind), D.l (lastW ⟨inn, ls, some l⟩), D.v xB, D.v xG]) (j := 2) rfl S w h0 hb h) ?_
  refine Chain.frzIn 50 53 (rowR xL _ 4 ((ls ++ [l]).map enLN)) (by decide) h4 rfl (rowR_stable _ _ _ _) (fun S w h0 hb h => by rw [← rows_all inn]; exact rowR_put1 (c := [D.v (.int .i64 l.kind), D.l (lastW ⟨inn, ls, some l⟩), D.l (lastB ⟨inn, ls, some l⟩), D.v xG]) (j := 3) rfl S w h0 hb h) ?_
  refine Chain.frzIn 5 50 (boxR b 25 (enNet inn (ls ++ [l]))) (by decide) rfl h0 (boxR_stable _ _ _) (fun S w h0 hb h => boxR_put (cs := [.v (.int .i64 inn), .v xL]) (j := 1) rfl S w h0 hb h) ?_
  exact k _ (fun i g1 g2 => by rw [h5 _ _ _ g1, hlow _ _ _ _ g2 (by omega), hlow _ _ _ _ g2 (by omega), hlow _ _ _ _ g2 (by omega), hlow _ _ _ _ g2 (by omega), hlow _ _ _ _ g2 (by omega), hlow _ _ _ _ g2 (by omega), hlow _ _ _ _ g2 (by omega)]) (by rw [get?_cons, if_pos rfl]; rfl)
end
set_option maxRecDepth 100000 in
set_option maxHeartbeats 8000000 in
theorem parseNF {Kw : World → Prop} [KSt Kw] [hKM : KHas Kw MaxL] (l : List UInt8) (hl : l.length ≤ 4000000000) (hwd : ∀ x ∈ linesN l, ∀ y ∈ wordsN x, y.length ≤ 20000) : FnK Tryz.prog 27 Kw [.d (.v (.string (tx l)))] (parseRes (parseT l)) := by
 have rB : 1000000 < l.length → parseT l = ((0, []), 0, 2) := fun h => if_pos h
 have rE : ¬ 1000000 < l.length → ∀ k, parseGo 0 ⟨0, [], none⟩ true (linesN l) = .inr k → parseT l = ((0, []), k, 3) := fun h k e => by unfold parseT; rw [if_neg h, e]
 have rS : ¬ 1000000 < l.length → ∀ s, parseGo 0 ⟨0, [], none⟩ true (linesN l) = .inl s → parseT l = if greatB s.inn s.all = true then ((0, []), 0, 2) else if s.all.foldl stW s.inn ≤ 0 then ((0, []), 0, 4) else ((s.inn, s.all), 0, 0) := fun h k e => by unfold parseT; rw [if_neg h, e]
 generalize parseT l = R at rB rE rS ⊢
 refine FnK.of Tryz.func27 rfl (by kernel_rfl) Tryz.ntmps27 Tryz.results27 rfl fun w0 S0 hK0 => ?_
 have hM0 : MaxL w0 := hKM.1 _ hK0
 by_cases h1 : 1000000 < l.length
 ·rw [rB h1]
  refine wk ?_
  ((try (first | intro K ms hms hK | intro K hK)); (first | apply Chain.go | apply Chain.goD); exact rfl; exact rfl; exact Loc.strLen rfl rfl (by kernel_rfl))
  rw [tx_size]
  refine wk ?_
  exact ⟨.cn rfl rfl inferInstance rfl ⟨.inl rfl, .inr rfl, trivial⟩, .d rfl (.inl rfl), .d rfl (.inl rfl), trivial⟩
 have rE := rE h1
 have rS := rS h1
 refine wk ?_
 ((try (first | intro K ms hms hK | intro K hK)); (first | apply Chain.go | apply Chain.goD); exact rfl; exact rfl; exact Loc.strLen rfl rfl (by kernel_rfl))
 rw [tx_size]
 have hsp := splitF (Kw := Kw) l hl
 rw [linesE] at hsp
 obtain ⟨ln1, ln2⟩ := lines_ok l
 generalize linesN l = ll at hwd rE rS hsp ln1 ln2
 refine wk ?_
 (first | intro K ms hms hK | intro K hK | skip)
 refine Chain.pin 5 5 [.v (.int .i64 0), .n] rfl rfl fun b => ?_
 refine Chain.convO 5 (boxR b 25 [.v (.int .i64 0), .v nil3]) rfl (boxR_stable _ _ _) (fun S w h => boxR_nilV (j := 1) rfl S w h) ?_
 refine Chain.newO 50 30 4 rfl ?_
 refine Chain.newO 51 27 1 rfl ?_
 refine Chain.newO 52 119 3 rfl ?_
 refine Chain.newO 53 31 1 rfl ?_
 refine c1 hsp ?_
 refine wk ?_
 refine AC.loop (X := Nat × NS × Bool × Value × Value × Value × Value) (fun x => ⟨[(2, .p 2 0), (5, .d (.v (ptv b 0))), (6, .d (.v (.bool x.2.2.1))), (18, .d (wordsE ll)), (19, .d (.v (.int .i64 (ll.length : Int)))), (20, .d (.v (.int .i64 (x.1 : Int))))], [(2, .box 25 [.d (.v (.int .i64 0)), .d .n]), (5, boxO b 25 [.v (.int .i64 x.2.1.inn), .v x.2.2.2.1]), (50, rowO x.2.2.2.1 30 4 (rowsOf x.2.1 x.2.2.2.2.1 x.2.2.2.2.2.1 x.2.2.2.2.2.2)), (51, rowO x.2.2.2.2.1 27 1 (lastW x.2.1)), (52, rowO x.2.2.2.2.2.1 119 3 (lastB x.2.1)), (53, rowO x.2.2.2.2.2.2 31 1 (lastG x.2.1))]⟩)
  (fun x => x.1 ≤ ll.length ∧ x.2.1.wf x.1 ∧ Plc x.2.2.2.1 (x.2.1.ls.length + x.2.1.last.toList.length) ∧ (x.2.1.last = none → x.2.2.2.1 = nil3 ∧ x.2.2.2.2.1 = nil3 ∧ x.2.2.2.2.2.1 = nil3 ∧ x.2.2.2.2.2.2 = nil3) ∧ parseGo 0 ⟨0, [], none⟩ true ll = parseGo x.1 x.2.1 x.2.2.1 (ll.drop x.1)) (fun x => ll.length - x.1)
  (0, ⟨0, [], none⟩, true, nil3, nil3, nil3, nil3) ⟨Nat.zero_le _, ⟨Nat.zero_le _, fun _ => rfl, fun _ h => nomatch h⟩, .inl ⟨rfl, rfl⟩, fun _ => ⟨rfl, rfl, rfl, rfl⟩, rfl⟩ ⟨rfl, rfl, rfl, rfl, rfl, rfl, trivial⟩ ⟨rfl, rfl, rfl, rfl, rfl, rfl, trivial⟩ ?_
 intro ⟨i, s, first, xL, xW, xB, xG⟩ ⟨hi, hwf, hP, hnil, hgo⟩
 dsimp only at hi hwf hP hnil hgo ⊢
 refine wk ?_
 refine s1 (fun h2 => ?_) (fun h2 => ?_)
 ·have hi' : i < ll.length := by omega
  have hget : ll[i]? = some ll[i] := List.getElem?_eq_getElem hi'
  have hdr : ll.drop i = ll[i] :: ll.drop (i + 1) := List.drop_eq_getElem_cons hi'
  rw [hdr, parseGo] at hgo
  have hwm := hwd _ (List.getElem_mem hi')
  have hlm := ln2 _ (List.getElem_mem hi')
  generalize ll[i] = y at hget hgo hwm hlm
  have hff := fieldsF (tx y) (by rw [tx_size]; omega)
  rw [wordsBE] at hff
  have hwn := wordsN_len y
  have hwo : ∀ z ∈ wordsN y, z ≠ [] ∧ z.length ≤ 20000 := fun z hz => ⟨(words_ok hz).1, hwm z hz⟩
  cases hwy : wordsN y with
  | nil =>
   rw [hwy] at hgo hff
   have e0 : ([] : List (List UInt8)).length = 0 := rfl
   refine wk ?_
   refine c1 hff ?_
   refine wk ?_
   exact ⟨(i + 1, s, first, xL, xW, xB, xG), ⟨hi', wf_up hwf (Nat.le_succ i), hP, hnil, hgo⟩, by dsimp only; omega, ⟨rfl, rfl, rfl, rfl, rfl, rfl, trivial⟩, ⟨rfl, rfl, rfl, rfl, rfl, rfl, trivial⟩⟩
  | cons h t =>
   rw [hwy] at hgo hwo hwn hff
   dsimp only at hgo
   have e1 : (h :: t).length = t.length + 1 := List.length_cons ..
   obtain ⟨c, h', rfl⟩ : ∃ c h', h = c :: h' := by
    cases h with
    | nil => exact absurd rfl (hwo [] (by simp)).1
    | cons c h' => exact ⟨c, h', rfl⟩
   have hget0 : ((c :: h') :: t)[0]? = some (c :: h') := rfl
   refine wk ?_
   refine c1 hff ?_
   refine wk ?_
   ((try (first | intro K ms hms hK | intro K hK)); (first | apply Chain.go | apply Chain.goD); exact rfl; exact rfl; exact Loc.strAt (c := c) 0 rfl rfl rfl rfl rfl (by kernel_rfl))
   by_cases hc : c.toNat = 35
   ·rw [if_pos (by rw [show c = 35 from UInt8.toNat_inj.1 hc]; rfl)] at hgo
    refine wk ?_
    exact ⟨(i + 1, s, first, xL, xW, xB, xG), ⟨hi', wf_up hwf (Nat.le_succ i), hP, hnil, hgo⟩, by dsimp only; omega, ⟨rfl, rfl, rfl, rfl, rfl, rfl, trivial⟩, ⟨rfl, rfl, rfl, rfl, rfl, rfl, trivial⟩⟩
   ·rw [if_neg (by intro e; exact hc (by simp at e; rw [e]; rfl))] at hgo
    have hF := lineF b xL xW xB xG s hP hnil (wf_up hwf (by omega)) (c :: h') t first hwo (by omega)
    refine wk ?_
    (first | intro K ms hms hK | intro K hK | skip)
    refine Chain.callO [5, 50, 51, 52, 53] hF rfl rfl rfl (by decide) rfl (netO_get rfl rfl rfl rfl rfl) ⟨.inl rfl, .inl rfl, .inl rfl, trivial⟩ (maxL_O [5, 50, 51, 52, 53] rfl (netO_get rfl rfl rfl rfl rfl) hM0 rfl) ?_
    rintro post res hq hlen5
    rcases hq with ⟨q1, rfl⟩ | ⟨s', q1, rfl, xL', xW', xB', xG', ⟨q2, q3⟩, rfl⟩
    ·rw [q1] at hgo
     obtain ⟨p0, p1, p2, p3, p4, rfl⟩ := len5 hlen5
     refine wk ?_
     rw [rE _ hgo]
     exact ⟨.cn rfl rfl inferInstance rfl ⟨.inl rfl, .inr rfl, trivial⟩, .d rfl (.inl (by simp)), .d rfl (.inl rfl), trivial⟩
    ·rw [q1] at hgo
     refine wk ?_
     exact ⟨(i + 1, s', false, xL', xW', xB', xG'), ⟨hi', lineS_wf hwf q1, q2, q3, hgo⟩, by dsimp only; omega, ⟨rfl, rfl, rfl, rfl, rfl, rfl, trivial⟩, ⟨rfl, rfl, rfl, rfl, rfl, rfl, trivial⟩⟩
 ·rw [List.drop_eq_nil_of_le (by omega), parseGo] at hgo
  have rS := rS s hgo
  have hw := widthsF s.inn s.all
  unfold widsR at hw
  refine wk ?_
  (first | intro K ms hms hK | intro K hK | skip)
  refine Chain.frzNet (s := s) (xW := xW) (xB := xB) (xG := xG) hwf.2.1 rfl rfl rfl rfl rfl fun O' g1 g2 => ?_
  refine Chain.sub ⟨[(2, .p 2 0), (5, .d (.v (ptv b 0)))], [(2, .box 25 [.d (.v (.int .i64 0)), .d .n]), (5, boxO b 25 (enNet s.inn s.all))]⟩ ⟨rfl, rfl, trivial⟩ ⟨g1 2 (by decide) (by decide), g2, trivial⟩ ?_
  ((try (first | intro K ms hms hK | intro K hK)); (first | apply Chain.go | apply Chain.goD); exact rfl; exact rfl; exact Loc.loadBn (id := 5) rfl rfl rfl rfl rfl)
  by_cases hg : greatB s.inn s.all = true
  ·rw [if_pos hg] at hw rS
   refine c1 hw ?_
   refine wk ?_
   rw [rS]
   exact ⟨.cn rfl rfl inferInstance rfl ⟨.inl rfl, .inr rfl, trivial⟩, .d rfl (.inl rfl), .d rfl (.inl rfl), trivial⟩
  rw [if_neg hg] at hw rS
  by_cases hf : s.all.foldl stW s.inn ≤ 0
  ·rw [if_pos hf] at hw rS
   refine c1 hw ?_
   refine wk ?_
   rw [rS]
   exact ⟨.cn rfl rfl inferInstance rfl ⟨.inl rfl, .inr rfl, trivial⟩, .d rfl (.inl rfl), .d rfl (.inl rfl), trivial⟩
  rw [if_neg hf] at hw rS
  refine c1 hw ?_
  refine wk ?_
  ((try (first | intro K ms hms hK | intro K hK)); (first | apply Chain.go | apply Chain.goD); exact rfl; exact rfl; exact Loc.loadBn (id := 5) rfl rfl rfl rfl rfl)
  refine wk ?_
  rw [rS]
  exact ⟨.cn rfl rfl inferInstance rfl ⟨.inl rfl, .inl rfl, trivial⟩, .d rfl (.inl rfl), .d rfl (.inl rfl), trivial⟩
end Go.Proofs.YthdkkpocihkgbaaGreatDoor
