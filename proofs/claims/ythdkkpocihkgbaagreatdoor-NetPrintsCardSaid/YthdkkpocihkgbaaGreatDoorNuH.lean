/-
 The text of a network: how long it is; net.Print and attestref15.Text.
-/
import Derived.Test.YthdkkpocihkgbaaGreatDoorNuG
import Derived.Test.YthdkkpocihkgbaaGreatDoorLayItoa
import Derived.Lib.AppendIntMem
import Derived.Lib.ItoaLen
namespace Go.Proofs.YthdkkpocihkgbaaGreatDoor
open Go.RowKit
attribute [local irreducible] AC Do St
/-- The library's table of powers of ten is as the text lays it. -/
def Tab (w : World) : Prop := Lib.TabIs Tryz.prog w "internal/strconv.uint64pow10" .u64 Lib.pow10Tab
theorem Tab.ext {w w' : World} (h : Tab w) (hx : Ext w w') : Tab w' := Lib.tabBelow_of_tabIs h w' hx
theorem itoaF (n : Int) (h0 : -9223372036854775808 ≤ n) (h1 : n ≤ 9223372036854775807) : FnK Tryz.prog 99 Tab [.d (.v (.int .i64 n))] [.d (.v (.string (tx (Lib.itoa n))))] :=
 ⟨⟨_, Tryz.func99, by kernel_rfl, by kernel_rfl⟩, fun S w vs hK hS hv => by
  obtain ⟨u, rfl, ha⟩ := hv.one
  have ha : RD S w u (.v (.int .i64 n)) := ha
  cases ha
  refine (Tryz.strconv_Itoa n h0 h1 w hK).mono ?_
  rintro e w' ⟨rfl, k, os, rfl⟩
  exact ⟨_, rfl, Lib.below_grow _ _ (Nat.le_refl _) k os, (RD.v rfl : RD _ _ _ _)⟩⟩
theorem spW_len {k : Nat} : ∀ {ws : List (List UInt8)}, (∀ w ∈ ws, w.length ≤ k) → (spW ws).length ≤ ws.length * (k + 1)
 | [], _ => by simp [spW]
 | w :: r, h => by
  have h1 := h w (List.mem_cons_self ..)
  have h2 := spW_len (ws := r) fun x hx => h x (List.mem_cons_of_mem _ hx)
  have e : spW (w :: r) = 32 :: (w ++ spW r) := rfl
  rw [e]
  simp only [List.length_cons, List.length_append, Nat.add_mul, Nat.one_mul]
  omega
theorem unl_len {k : Nat} : ∀ {ws : List (List UInt8)}, (∀ w ∈ ws, w.length ≤ k) → (unl ws).length ≤ ws.length * (k + 1)
 | [], _ => by simp [unl]
 | w :: r, h => by
  have h1 := h w (List.mem_cons_self ..)
  have h2 := unl_len (ws := r) fun x hx => h x (List.mem_cons_of_mem _ hx)
  have e : unl (w :: r) = w ++ 10 :: unl r := by simp [unl]
  rw [e]
  simp only [List.length_cons, List.length_append, Nat.add_mul, Nat.one_mul]
  omega
theorem printL_256 {q : Rat} (h : Bd 256 q) : (printL q).length ≤ 652 := by
 have h1 := printL_len q
 have h2 := limbs_len_bd h.1
 have h3 := limbs_len_bd h.2
 omega
/-- A layer that is not great. -/
def fitL (l : LN) : Prop := (l.kind = 1 → l.W.length ≤ 32 ∧ ∀ r ∈ l.W, r.length ≤ 32 ∧ ∀ q ∈ r, Bd 256 q) ∧ (∀ q ∈ l.B, Bd 256 q) ∧ (l.kind = 3 → l.G.length ≤ 32 ∧ ∀ g ∈ l.G, g.length ≤ 32 ∧ ∀ v ∈ g, 0 ≤ v ∧ v < 32)
theorem fit_of {l : LN} (hb : bigL l = false) (hok : okY l) (hs : smLN 256 l) : fitL l := by
 obtain ⟨k, W, B, G⟩ := l
 obtain ⟨a, _, c, _⟩ := hs
 unfold bigL at hb
 dsimp only at hb a c
 refine ⟨fun hk => ?_, c, fun hk => ?_⟩ <;> dsimp only at hk ⊢ <;> subst hk
 ·simp only [decide_true, Bool.true_and, Bool.or_eq_false_iff, decide_eq_false_iff_not] at hb
  refine ⟨by omega, fun r hr => ⟨?_, (a r hr).2⟩⟩
  have h2 := List.any_eq_false.1 hb.1.2 r hr
  simp at h2
  omega
 ·simp only [decide_true, Bool.true_and, Bool.or_eq_false_iff, decide_eq_false_iff_not] at hb
  refine ⟨by omega, fun g hg => ⟨?_, ?_⟩⟩
  ·have h2 := List.any_eq_false.1 hb.2.2 g hg
   simp at h2
   omega
  ·rcases hok with ⟨hk, _⟩ | hk | ⟨_, h⟩
   ·exact absurd (show (3 : Int) = 1 from hk) (by decide)
   ·exact absurd (show (3 : Int) = 2 from hk) (by decide)
   ·exact h g hg
theorem rowY_len {p : List Rat × Rat} (h1 : p.1.length ≤ 32) (h2 : ∀ q ∈ p.1, Bd 256 q) (h3 : Bd 256 p.2) : (rowY p).length ≤ 30000 := by
 have := spW_len (k := 652) (ws := (p.1 ++ [p.2]).map printL) fun w hw => by
  obtain ⟨q, hq, rfl⟩ := List.mem_map.1 hw
  refine printL_256 ?_
  rcases List.mem_append.1 hq with h | h
  ·exact h2 q h
  ·rw [List.mem_singleton.1 h]; exact h3
 unfold rowY
 simp only [List.length_map, List.length_append, List.length_singleton] at this ⊢
 have e : bRow.length = 3 := rfl
 omega
theorem itoa_32 {v : Int} (h : 0 ≤ v ∧ v < 32) : (Lib.itoa v).length ≤ 21 := Lib.itoa_length_le v (by omega) (by omega)
theorem ofY_len {g : List Int} (h1 : g.length ≤ 32) (h2 : ∀ v ∈ g, 0 ≤ v ∧ v < 32) : (ofY g).length ≤ 30000 := by
 have := spW_len (k := 21) (ws := g.map Lib.itoa) fun w hw => by
  obtain ⟨q, hq, rfl⟩ := List.mem_map.1 hw
  exact itoa_32 (h2 q hq)
 unfold ofY
 simp only [List.length_map, List.length_append] at this ⊢
 have e : bOf.length = 2 := rfl
 omega
theorem layY_len {l : LN} (h : fitL l) (hok : okY l) : (layY l).length ≤ 33 ∧ ∀ y ∈ layY l, y.length ≤ 30000 := by
 obtain ⟨k, W, B, G⟩ := l
 obtain ⟨a, c, d⟩ := h
 rcases hok with ⟨hk, hB⟩ | hk | ⟨hk, hG⟩ <;> dsimp only at hk a c d <;> subst hk
 ·obtain ⟨a1, a2⟩ := a rfl
  dsimp only at hB
  refine ⟨by show (bAff :: (W.zip B).map rowY).length ≤ 33; simp; omega, fun y hy => ?_⟩
  have hy : y ∈ bAff :: (W.zip B).map rowY := hy
  rcases List.mem_cons.1 hy with rfl | hy
  ·decide
  ·obtain ⟨p, hp, rfl⟩ := List.mem_map.1 hy
   have := List.of_mem_zip (a := p.1) (b := p.2) hp
   exact rowY_len (a2 _ this.1).1 (a2 _ this.1).2 (c _ this.2)
 ·refine ⟨by show 1 ≤ 33; decide, fun y hy => ?_⟩
  have hy : y ∈ [bRel] := hy
  rw [List.mem_singleton.1 hy]; decide
 ·obtain ⟨a1, a2⟩ := d rfl
  refine ⟨by show (bMax :: G.map ofY).length ≤ 33; simp; omega, fun y hy => ?_⟩
  have hy : y ∈ bMax :: G.map ofY := hy
  rcases List.mem_cons.1 hy with rfl | hy
  ·decide
  ·obtain ⟨p, hp, rfl⟩ := List.mem_map.1 hy
   exact ofY_len (a2 p hp).1 (a2 p hp).2
theorem flatY_len {α : Type} {f : α → List (List UInt8)} {k : Nat} : ∀ {ls : List α}, (∀ l ∈ ls, (f l).length ≤ k) → (ls.flatMap f).length ≤ ls.length * k
 | [], _ => by simp
 | l :: r, h => by
  have h1 := h l (List.mem_cons_self ..)
  have h2 := flatY_len (ls := r) fun x hx => h x (List.mem_cons_of_mem _ hx)
  simp only [List.flatMap_cons, List.length_append, List.length_cons, Nat.add_mul, Nat.one_mul]
  omega
theorem netY_len {n : Int} {ls : List LN} (hn : 0 ≤ n ∧ n ≤ 32) (h : ∀ l ∈ ls, fitL l ∧ okY l) (hl : ls.length ≤ 16) : (netY n ls).length ≤ 20000000 := by
 have h1 := flatY_len (f := layY) (k := 33) (ls := ls) fun l hl => (layY_len (h l hl).1 (h l hl).2).1
 have h2 := unl_len (k := 30000) (ws := (bNet ++ spW [Lib.itoa n]) :: ls.flatMap layY) fun w hw => by
  rcases List.mem_cons.1 hw with rfl | hw
  ·have := Lib.itoa_length_le n (by omega) (by omega)
   have e : spW [Lib.itoa n] = 32 :: (Lib.itoa n ++ []) := rfl
   rw [e]
   simp [bNet]
   omega
  ·obtain ⟨l, hl, hw⟩ := List.mem_flatMap.1 hw
   exact (layY_len (h l hl).1 (h l hl).2).2 w hw
 unfold netY
 simp only [List.length_cons] at h2
 omega
theorem netY_snoc (n : Int) (ls : List LN) (l : LN) : netY n (ls ++ [l]) = netY n ls ++ unl (layY l) := by
 unfold netY unl
 simp [List.flatMap_append, List.flatMap_cons]
theorem unl_snoc (ws : List (List UInt8)) (w : List UInt8) : unl (ws ++ [w]) = unl ws ++ (w ++ [10]) := by
 unfold unl
 simp [List.flatMap_append]
theorem spW_snoc (ws : List (List UInt8)) (w : List UInt8) : spW (ws ++ [w]) = spW ws ++ 32 :: w := by
 unfold spW
 simp [List.flatMap_append]
section
variable {P : Program} {C : Cx} {o : Oper} {σ : AS}
/-- Texts, one behind the other. -/
theorem Loc.addT {T T' : TypeId} {x y : Operand} {a b : List UInt8} (c : List UInt8) (ho : o.op = .binOp .add T x y T') (hx : ev σ x = .d (.v (.string (tx a)))) (hy : ev σ y = .d (.v (.string (tx b)))) (hc : a ++ b = c) (hl : c.length ≤ 9223372036854775807) : Loc P C o σ (.d (.v (.string (tx c)))) := by
 subst hc
 rw [← tx_app]
 refine Loc.strAdd ho hx hy ?_
 rw [tx_size, tx_size]
 rwa [List.length_append] at hl
end
theorem line_short {h : List UInt8} {ws : List (List UInt8)} (h0 : h ≠ []) (h1 : ∀ c ∈ h, spa8 c = false) (hh : h.length ≤ 20000) (h2 : ∀ w ∈ ws, (w ≠ [] ∧ ∀ c ∈ w, spa8 c = false) ∧ w.length ≤ 20000) : ∀ y ∈ wordsN (h ++ spW ws), y.length ≤ 20000 := fun y hy => by
 rw [words_line h0 h1 fun w hw => (h2 w hw).1] at hy
 rcases List.mem_cons.1 hy with rfl | hy
 ·exact hh
 ·exact (h2 y hy).2
theorem words_short {n : Int} {ls : List LN} (hn : 0 ≤ n ∧ n ≤ 32) (h : ∀ l ∈ ls, fitL l ∧ okY l) : ∀ x ∈ linesN (netY n ls), ∀ y ∈ wordsN x, y.length ≤ 20000 := fun x hx => by
 rw [netY_lines] at hx
 rcases List.mem_append.1 hx with hx | hx
 ·rcases List.mem_cons.1 hx with rfl | hx
  ·refine line_short (by decide) (by decide) (by decide) fun w hw => ?_
   rw [List.mem_singleton.1 hw]
   exact ⟨itoa_sp n, Nat.le_trans (Lib.itoa_length_le n (by omega) (by omega)) (by decide)⟩
  ·obtain ⟨l, hl, hx⟩ := List.mem_flatMap.1 hx
   obtain ⟨⟨a, c, d⟩, hok⟩ := h l hl
   have h1 : ∀ w : List UInt8, w = bAff ∨ w = bRel ∨ w = bMax → ∀ y ∈ wordsN w, y.length ≤ 20000 := fun w hw y hy => by
    rcases hw with rfl | rfl | rfl <;> (rw [head_words (by decide) (by decide)] at hy; rw [List.mem_singleton.1 hy]; decide)
   obtain ⟨k, W, B, G⟩ := l
   rcases hok with ⟨hk, hB⟩ | hk | ⟨hk, hG⟩ <;> dsimp only at hk a c d <;> subst hk
   ·have hx : x ∈ bAff :: (W.zip B).map rowY := hx
    rcases List.mem_cons.1 hx with rfl | hx
    ·exact h1 _ (.inl rfl)
    ·obtain ⟨p, hp, rfl⟩ := List.mem_map.1 hx
     have hz := List.of_mem_zip (a := p.1) (b := p.2) hp
     refine line_short (by decide) (by decide) (by decide) fun w hw => ?_
     obtain ⟨q, hq, rfl⟩ := List.mem_map.1 hw
     refine ⟨printL_sp q, Nat.le_trans (printL_256 ?_) (by decide)⟩
     rcases List.mem_append.1 hq with g | g
     ·exact ((a rfl).2 _ hz.1).2 q g
     ·rw [List.mem_singleton.1 g]; exact c _ hz.2
   ·have hx : x ∈ [bRel] := hx
    exact h1 _ (.inr (.inl (List.mem_singleton.1 hx)))
   ·have hx : x ∈ bMax :: G.map ofY := hx
    rcases List.mem_cons.1 hx with rfl | hx
    ·exact h1 _ (.inr (.inr rfl))
    ·obtain ⟨g, hg, rfl⟩ := List.mem_map.1 hx
     refine line_short (by decide) (by decide) (by decide) fun w hw => ?_
     obtain ⟨v, hv, rfl⟩ := List.mem_map.1 hw
     exact ⟨itoa_sp v, Nat.le_trans (itoa_32 (hG g hg v hv)) (by decide)⟩
 ·rw [List.mem_singleton.1 hx]
  intro y hy
  cases hy
theorem nrm_sm {l : LN} (h : smLN 256 l) : smLN 256 (nrm l) := by
 obtain ⟨k, W, B, G⟩ := l
 obtain ⟨a, b, c, d⟩ := h
 unfold nrm
 split
 ·exact ⟨a, b, c, d⟩
 ·split
  ·exact ⟨(fun r hr => nomatch hr), Nat.zero_le _, (fun q hq => nomatch hq), Nat.zero_le _⟩
  ·exact ⟨(fun r hr => nomatch hr), Nat.zero_le _, (fun q hq => nomatch hq), Nat.zero_le _⟩
theorem nrm_smG {l : LN} (h : smG l) : smG (nrm l) := by
 unfold nrm
 split
 ·exact ⟨by show 0 ≤ 1000000; decide, fun g hg => nomatch hg⟩
 ·split
  ·exact ⟨by show 0 ≤ 1000000; decide, fun g hg => nomatch hg⟩
  ·exact h
/-- What net.Print answers. -/
def printR (n : Int) (ls : List LN) : List DV :=
 if greatB n ls = true then [.d (.v (.string (tx []))), .d (.v (.int .i64 2))]
 else if ls.foldl stW n ≤ 0 then [.d (.v (.string (tx []))), .d (.v (.int .i64 4))]
 else [.d (.v (.string (tx (netY n ls)))), .d (.v (.int .i64 0))]
theorem FnK.lift {P : Program} {f : FuncId} {K Kw : World → Prop} {args res : List DV} [hK : KHas Kw K] (h : FnK P f K args res) : FnK P f Kw args res := ⟨h.body, fun S w vs hw => h.run S w vs (hK.has w hw)⟩
theorem row_end {r : List Rat} {b : Rat} (T U : List UInt8) (A : List (List Rat × Rat)) (hU : T ++ unl (bAff :: A.map rowY) = U) : U ++ (bRow ++ spW (r.map printL)) ++ ([32] ++ printL b ++ [10]) = T ++ unl (bAff :: (A ++ [(r, b)]).map rowY) := by
 rw [List.map_append, List.map_singleton, ← List.cons_append, unl_snoc, ← List.append_assoc T, hU]
 unfold rowY
 rw [List.map_append, List.map_singleton, spW_snoc]
 simp
theorem of_end {g : List Int} (T U : List UInt8) (A : List (List Int)) (hU : T ++ unl (bMax :: A.map ofY) = U) : U ++ (bOf ++ spW (g.map Lib.itoa)) ++ [10] = T ++ unl (bMax :: (A ++ [g]).map ofY) := by
 rw [List.map_append, List.map_singleton, ← List.cons_append, unl_snoc, ← List.append_assoc T, hU]
 unfold ofY
 simp
theorem rows_len {W : List (List Rat)} {B : List Rat} (h1 : W.length ≤ 32) (h2 : ∀ r ∈ W, r.length ≤ 32 ∧ ∀ q ∈ r, Bd 256 q) (h3 : ∀ q ∈ B, Bd 256 q) (j : Nat) : (unl (bAff :: ((W.zip B).take j).map rowY)).length ≤ 1000000 := by
 have := unl_len (k := 30000) (ws := bAff :: ((W.zip B).take j).map rowY) fun w hw => by
  rcases List.mem_cons.1 hw with rfl | hw
  ·decide
  ·obtain ⟨p, hp, rfl⟩ := List.mem_map.1 hw
   have hz := List.of_mem_zip (a := p.1) (b := p.2) (List.mem_of_mem_take hp)
   exact rowY_len (h2 _ hz.1).1 (h2 _ hz.1).2 (h3 _ hz.2)
 simp only [List.length_cons, List.length_map, List.length_take, List.length_zip] at this
 omega
theorem ofs_len {G : List (List Int)} (h1 : G.length ≤ 32) (h2 : ∀ g ∈ G, g.length ≤ 32 ∧ ∀ v ∈ g, 0 ≤ v ∧ v < 32) (j : Nat) : (unl (bMax :: (G.take j).map ofY)).length ≤ 1000000 := by
 have := unl_len (k := 30000) (ws := bMax :: (G.take j).map ofY) fun w hw => by
  rcases List.mem_cons.1 hw with rfl | hw
  ·decide
  ·obtain ⟨p, hp, rfl⟩ := List.mem_map.1 hw
   have hz := h2 p (List.mem_of_mem_take hp)
   exact ofY_len hz.1 hz.2
 simp only [List.length_cons, List.length_map, List.length_take] at this
 omega
theorem rowP_len {r : List Rat} (h1 : r.length ≤ 32) (h2 : ∀ q ∈ r, Bd 256 q) (j : Nat) : (spW ((r.take j).map printL)).length ≤ 30000 := by
 have := spW_len (k := 652) (ws := (r.take j).map printL) fun w hw => by
  obtain ⟨p, hp, rfl⟩ := List.mem_map.1 hw
  exact printL_256 (h2 p (List.mem_of_mem_take hp))
 simp only [List.length_map, List.length_take] at this
 omega
theorem ofP_len {r : List Int} (h1 : r.length ≤ 32) (h2 : ∀ v ∈ r, 0 ≤ v ∧ v < 32) (j : Nat) : (spW ((r.take j).map Lib.itoa)).length ≤ 30000 := by
 have := spW_len (k := 21) (ws := (r.take j).map Lib.itoa) fun w hw => by
  obtain ⟨p, hp, rfl⟩ := List.mem_map.1 hw
  exact itoa_32 (h2 p (List.mem_of_mem_take hp))
 simp only [List.length_map, List.length_take] at this
 omega
theorem netY_nil (n : Int) : [110, 101, 116, 32] ++ Lib.itoa n ++ [10] = netY n [] := by
 unfold netY unl spW
 simp [bNet]
set_option maxRecDepth 100000 in
set_option maxHeartbeats 16000000 in
theorem printNF {Kw : World → Prop} [KSt Kw] [KHas Kw Tab] (n : Int) (ls : List LN) (hsm : ∀ l ∈ ls, smLN 256 l) : FnK Tryz.prog 48 Kw [.g (enNet n ls)] (printR n ls) := by
 have hw := widthsF n ls
 unfold printR
 cases hg : greatB n ls with
 | true =>
  rw [if_pos rfl]
  rw [widsR_2 hg] at hw
  refine FnK.of Tryz.func48 rfl (by kernel_rfl) Tryz.ntmps48 Tryz.results48 rfl fun w0 S0 hK0 => ?_
  refine wk ?_
  refine c1 hw ?_
  refine wk ?_
  exact ⟨.d rfl (.inl rfl), .d rfl (.inl rfl), trivial⟩
 | false =>
 rw [if_neg (by decide)]
 by_cases hf : ls.foldl stW n ≤ 0
 ·rw [if_pos hf]
  rw [widsR_4 hg hf] at hw
  refine FnK.of Tryz.func48 rfl (by kernel_rfl) Tryz.ntmps48 Tryz.results48 rfl fun w0 S0 hK0 => ?_
  refine wk ?_
  refine c1 hw ?_
  refine wk ?_
  exact ⟨.d rfl (.inl rfl), .d rfl (.inl rfl), trivial⟩
 rw [if_neg hf]
 rw [widsR_0 hg (by omega)] at hw
 obtain ⟨p1, p2, p3⟩ := great_out hg
 obtain ⟨p0, hok⟩ := fold_ok ls n p3 p2 (by omega)
 have hfit : ∀ l ∈ ls, fitL l ∧ okY l := fun l h => ⟨fit_of (p2 l h) (hok l h) (hsm l h), hok l h⟩
 have hit0 := (itoaF n (by omega) (by omega)).lift (Kw := Kw)
 have hI0 := Lib.itoa_length_le n (by omega) (by omega)
 refine FnK.of Tryz.func48 rfl (by kernel_rfl) Tryz.ntmps48 Tryz.results48 rfl fun w0 S0 hK0 => ?_
 refine wk ?_
 refine c1 hw ?_
 refine wk ?_
 refine c1 hit0 ?_
 ((try (first | intro K ms hms hK | intro K hK)); (first | apply Chain.go | apply Chain.goD); exact rfl; exact rfl; exact Loc.addT (a := [110, 101, 116, 32]) (b := Lib.itoa n) ([110, 101, 116, 32] ++ Lib.itoa n) rfl rfl rfl rfl (by simp; omega))
 refine wk ?_
 ((try (first | intro K ms hms hK | intro K hK)); (first | apply Chain.go | apply Chain.goD); exact rfl; exact rfl; exact Loc.addT (a := [110, 101, 116, 32] ++ Lib.itoa n) (b := [10]) (netY n (ls.take 0)) rfl rfl rfl (netY_nil n) (Nat.le_trans (netY_len (ls := []) (by omega) (fun l h => nomatch h) (by decide)) (by decide)))
 refine wk ?_
 refine AC.loop (X := Nat) (fun i => ⟨[(6, .d (.v (.string (tx (netY n (ls.take i)))))), (31, .d (.l (ls.map enLN))), (32, .d (.v (.int .i64 (ls.length : Int)))), (33, .d (.v (.int .i64 (i : Int))))], []⟩) (fun i => i ≤ ls.length) (fun i => ls.length - i) 0 (Nat.zero_le _) ⟨rfl, rfl, rfl, rfl, trivial⟩ trivial ?_
 intro i hi
 dsimp only
 refine wk ?_
 refine s1 (fun h1 => ?_) (fun h1 => ?_)
 ·have hi1 : i < ls.length := by omega
  have hx : ls[i]? = some ls[i] := List.getElem?_eq_getElem hi1
  have hT : ls.take (i + 1) = ls.take i ++ [ls[i]] := List.take_succ_eq_append_getElem hi1
  obtain ⟨⟨a, c, d⟩, hok⟩ := hfit _ (List.getElem_mem hi1)
  have hlen : (netY n (ls.take i)).length ≤ 20000000 := netY_len (by omega) (fun l h => hfit l (List.mem_of_mem_take h)) (by simp; omega)
  have hnx := netY_snoc n (ls.take i) ls[i]
  rw [← hT] at hnx
  generalize hT2 : netY n (ls.take (i + 1)) = T2 at hnx
  generalize netY n (ls.take i) = T at hnx hlen ⊢
  generalize ls[i] = x at hx a c d hok hnx
  clear hT
  obtain ⟨k, W, B, G⟩ := x
  have hWl : (W.map enRs).length = W.length := List.length_map ..
  have hGl : (G.map enIs).length = G.length := List.length_map ..
  rcases hok with ⟨hk, hB⟩ | hk | ⟨hk, hG⟩ <;> dsimp only at hk a c d <;> subst hk
  ·have hkk : (⟨1, W, B, G⟩ : LN).kind = 1 := rfl
   obtain ⟨a1, a2⟩ := a rfl
   dsimp only at hB
   have hrl := rows_len (W := W) (B := B) a1 a2 c
   have hn1 : T2 = T ++ unl (bAff :: (W.zip B).map rowY) := hnx
   refine wk ?_
   ((try (first | intro K ms hms hK | intro K hK)); (first | apply Chain.go | apply Chain.goD); exact rfl; exact rfl; exact Loc.addT (b := [97, 102, 102, 105, 110, 101, 10]) (T ++ unl (bAff :: ((W.zip B).take 0).map rowY)) rfl rfl rfl rfl (by have := hrl 0; rw [List.length_append]; omega))
   refine wk ?_
   refine AC.loop (X := Nat) (fun j => ⟨[(6, .d (.v (.string (tx (T ++ unl (bAff :: ((W.zip B).take j).map rowY)))))), (8, .p 8 0), (31, .d (.l (ls.map enLN))), (32, .d (.v (.int .i64 (ls.length : Int)))), (33, .d (.v (.int .i64 (i : Int)))), (70, .d (rowsD (W.map enRs))), (71, .d (.v (.int .i64 (W.length : Int)))), (72, .d (.v (.int .i64 (j : Int))))], [(8, .box 30 [.d (.v (.int .i64 1)), .d (rowsD (W.map enRs)), .d (enRs B), .d (rowsD (G.map enIs))])]⟩) (fun j => j ≤ W.length) (fun j => W.length - j) 0 (Nat.zero_le _) ⟨rfl, rfl, rfl, rfl, rfl, rfl, ivw (by dsimp only; omega), rfl, trivial⟩ ⟨rfl, trivial⟩ ?_
   intro j hj
   dsimp only
   refine wk ?_
   refine s1 (fun g1 => ?_) (fun g1 => ?_)
   ·have hj1 : j < W.length := by omega
    have hjB : j < B.length := by omega
    have hjz : j < (W.zip B).length := by rw [List.length_zip]; omega
    have hr : (W.map enRs)[j]? = some (enRs W[j]) := gm enRs hj1
    have hb : B[j]? = some B[j] := List.getElem?_eq_getElem hjB
    have hz : (W.zip B).take (j + 1) = (W.zip B).take j ++ [(W[j], B[j])] := by rw [List.take_succ_eq_append_getElem hjz, List.getElem_zip]
    have hUl : (T ++ unl (bAff :: ((W.zip B).take j).map rowY)).length ≤ 30000000 := by have := hrl j; rw [List.length_append]; omega
    have hVl : (T ++ unl (bAff :: ((W.zip B).take (j + 1)).map rowY)).length ≤ 30000000 := by have := hrl (j + 1); rw [List.length_append]; omega
    have hend := fun U hU => row_end (r := W[j]) (b := B[j]) T U ((W.zip B).take j) hU
    rw [← hz] at hend
    have b1 := a2 _ (List.getElem_mem hj1)
    have b2 := c _ (List.getElem_mem hjB)
    generalize hV : T ++ unl (bAff :: ((W.zip B).take (j + 1)).map rowY) = V at hVl hend
    generalize hU : T ++ unl (bAff :: ((W.zip B).take j).map rowY) = U at hUl ⊢
    have hend := hend U hU
    generalize W[j] = r at hr b1 hend
    generalize B[j] = b at hb b2 hend
    clear hz hU
    obtain ⟨b3, b4⟩ := b1
    have hLS := rowP_len (r := r) b3 b4
    have hLb := printL_256 b2
    have h3 : bRow.length = 3 := rfl
    refine wk ?_
    ((try (first | intro K ms hms hK | intro K hK)); (first | apply Chain.go | apply Chain.goD); exact rfl; exact rfl; exact Loc.addT (b := [114, 111, 119]) (U ++ (bRow ++ spW ((r.take 0).map printL))) rfl rfl rfl rfl (by have := hLS 0; rw [List.length_append, List.length_append]; omega))
    refine wk ?_
    refine AC.loop (X := Nat) (fun q => ⟨[(6, .d (.v (.string (tx (U ++ (bRow ++ spW ((r.take q).map printL))))))), (8, .p 8 0), (9, .d (.v (.int .i64 (j : Int)))), (31, .d (.l (ls.map enLN))), (32, .d (.v (.int .i64 (ls.length : Int)))), (33, .d (.v (.int .i64 (i : Int)))), (70, .d (rowsD (W.map enRs))), (71, .d (.v (.int .i64 (W.length : Int)))), (72, .d (.v (.int .i64 (j : Int)))), (79, .d (enRs r)), (80, .d (.v (.int .i64 (r.length : Int)))), (81, .d (.v (.int .i64 (q : Int))))], [(8, .box 30 [.d (.v (.int .i64 1)), .d (rowsD (W.map enRs)), .d (enRs B), .d (rowsD (G.map enIs))])]⟩) (fun q => q ≤ r.length) (fun q => r.length - q) 0 (Nat.zero_le _) ⟨rfl, rfl, rfl, rfl, rfl, rfl, rfl, rfl, rfl, rfl, rfl, rfl, trivial⟩ ⟨rfl, trivial⟩ ?_
    intro q hq
    dsimp only
    refine wk ?_
    refine s1 (fun g2 => ?_) (fun g2 => ?_)
    ·have hq1 : q < r.length := by omega
     have hv : r[q]? = some r[q] := List.getElem?_eq_getElem hq1
     have hqs : U ++ (bRow ++ spW ((r.take q).map printL)) ++ ([32] ++ printL r[q]) = U ++ (bRow ++ spW ((r.take (q + 1)).map printL)) := by
      rw [List.take_succ_eq_append_getElem hq1, List.map_append, List.map_singleton, spW_snoc]
      simp
     have b5 := b4 _ (List.getElem_mem hq1)
     have hL1 := hLS (q + 1)
     generalize r[q] = v at hv b5 hqs
     have hLv := printL_256 b5
     refine wk ?_
     refine c1 (printF (p := v) b5 (by decide)) ?_
     ((try (first | intro K ms hms hK | intro K hK)); (first | apply Chain.go | apply Chain.goD); exact rfl; exact rfl; exact Loc.addT (a := [32]) (b := printL v) ([32] ++ printL v) rfl rfl rfl rfl (by simp; omega))
     refine wk ?_
     ((try (first | intro K ms hms hK | intro K hK)); (first | apply Chain.go | apply Chain.goD); exact rfl; exact rfl; exact Loc.addT (a := U ++ (bRow ++ spW ((r.take q).map printL))) (b := [32] ++ printL v) (U ++ (bRow ++ spW ((r.take (q + 1)).map printL))) rfl rfl rfl hqs (by rw [List.length_append, List.length_append]; omega))
     refine wk ?_
     exact ⟨q + 1, hq1, by omega, ⟨rfl, rfl, rfl, rfl, rfl, rfl, rfl, rfl, rfl, rfl, rfl, rfl, trivial⟩, ⟨rfl, trivial⟩⟩
    ·obtain rfl : q = r.length := by omega
     have hL1 := hLS r.length
     rw [List.take_length] at hL1 ⊢
     refine wk ?_
     refine c1 (printF (p := b) b2 (by decide)) ?_
     ((try (first | intro K ms hms hK | intro K hK)); (first | apply Chain.go | apply Chain.goD); exact rfl; exact rfl; exact Loc.addT (a := [32]) (b := printL b) ([32] ++ printL b) rfl rfl rfl rfl (by simp; omega))
     refine wk ?_
     ((try (first | intro K ms hms hK | intro K hK)); (first | apply Chain.go | apply Chain.goD); exact rfl; exact rfl; exact Loc.addT (a := [32] ++ printL b) (b := [10]) ([32] ++ printL b ++ [10]) rfl rfl rfl rfl (by simp; omega))
     refine wk ?_
     ((try (first | intro K ms hms hK | intro K hK)); (first | apply Chain.go | apply Chain.goD); exact rfl; exact rfl; exact Loc.addT (a := U ++ (bRow ++ spW (r.map printL))) (b := [32] ++ printL b ++ [10]) V rfl rfl rfl hend (by omega))
     subst hV
     refine wk ?_
     exact ⟨j + 1, hj1, by omega, ⟨rfl, rfl, rfl, rfl, rfl, rfl, rfl, rfl, trivial⟩, ⟨rfl, trivial⟩⟩
   ·obtain rfl : j = W.length := by omega
    rw [List.take_of_length_le (by rw [List.length_zip]; omega), ← hn1]
    subst hT2
    refine wk ?_
    exact ⟨i + 1, hi1, by omega, ⟨rfl, rfl, rfl, rfl, trivial⟩, trivial⟩
  ·have hkk : (⟨2, W, B, G⟩ : LN).kind = 2 := rfl
   have hn2 : T2 = T ++ [114, 101, 108, 117, 10] := hnx
   subst hT2
   refine wk ?_
   ((try (first | intro K ms hms hK | intro K hK)); (first | apply Chain.go | apply Chain.goD); exact rfl; exact rfl; exact Loc.addT (b := [114, 101, 108, 117, 10]) (netY n (ls.take (i + 1))) rfl rfl rfl hn2.symm (by rw [hn2]; simp; omega))
   refine wk ?_
   exact ⟨i + 1, hi1, by omega, ⟨rfl, rfl, rfl, rfl, trivial⟩, trivial⟩
  ·have hkk : (⟨3, W, B, G⟩ : LN).kind = 3 := rfl
   obtain ⟨a1, a2⟩ := d rfl
   have hrl := ofs_len (G := G) a1 a2
   have hn1 : T2 = T ++ unl (bMax :: G.map ofY) := hnx
   refine wk ?_
   ((try (first | intro K ms hms hK | intro K hK)); (first | apply Chain.go | apply Chain.goD); exact rfl; exact rfl; exact Loc.addT (b := [109, 97, 120, 10]) (T ++ unl (bMax :: (G.take 0).map ofY)) rfl rfl rfl rfl (by have := hrl 0; rw [List.length_append]; omega))
   refine wk ?_
   refine AC.loop (X := Nat) (fun j => ⟨[(6, .d (.v (.string (tx (T ++ unl (bMax :: (G.take j).map ofY)))))), (31, .d (.l (ls.map enLN))), (32, .d (.v (.int .i64 (ls.length : Int)))), (33, .d (.v (.int .i64 (i : Int)))), (42, .d (rowsD (G.map enIs))), (43, .d (.v (.int .i64 (G.length : Int)))), (44, .d (.v (.int .i64 (j : Int))))], []⟩) (fun j => j ≤ G.length) (fun j => G.length - j) 0 (Nat.zero_le _) ⟨rfl, rfl, rfl, rfl, rfl, ivw (by dsimp only; omega), rfl, trivial⟩ trivial ?_
   intro j hj
   dsimp only
   refine wk ?_
   refine s1 (fun g1 => ?_) (fun g1 => ?_)
   ·have hj1 : j < G.length := by omega
    have hr : (G.map enIs)[j]? = some (enIs G[j]) := gm enIs hj1
    have hz : G.take (j + 1) = G.take j ++ [G[j]] := List.take_succ_eq_append_getElem hj1
    have hUl : (T ++ unl (bMax :: (G.take j).map ofY)).length ≤ 30000000 := by have := hrl j; rw [List.length_append]; omega
    have hVl : (T ++ unl (bMax :: (G.take (j + 1)).map ofY)).length ≤ 30000000 := by have := hrl (j + 1); rw [List.length_append]; omega
    have hend := fun U hU => of_end (g := G[j]) T U (G.take j) hU
    rw [← hz] at hend
    have b1 := a2 _ (List.getElem_mem hj1)
    generalize hV : T ++ unl (bMax :: (G.take (j + 1)).map ofY) = V at hVl hend
    generalize hU : T ++ unl (bMax :: (G.take j).map ofY) = U at hUl ⊢
    have hend := hend U hU
    obtain ⟨r, hre⟩ : ∃ r, G[j] = r := ⟨_, rfl⟩
    rw [hre] at hr b1 hend
    clear hz hU hre
    obtain ⟨b3, b4⟩ := b1
    have hLS := ofP_len (r := r) b3 b4
    have h3 : bOf.length = 2 := rfl
    refine wk ?_
    ((try (first | intro K ms hms hK | intro K hK)); (first | apply Chain.go | apply Chain.goD); exact rfl; exact rfl; exact Loc.addT (b := [111, 102]) (U ++ (bOf ++ spW ((r.take 0).map Lib.itoa))) rfl rfl rfl rfl (by have := hLS 0; rw [List.length_append, List.length_append]; omega))
    refine wk ?_
    refine AC.loop (X := Nat) (fun q => ⟨[(6, .d (.v (.string (tx (U ++ (bOf ++ spW ((r.take q).map Lib.itoa))))))), (31, .d (.l (ls.map enLN))), (32, .d (.v (.int .i64 (ls.length : Int)))), (33, .d (.v (.int .i64 (i : Int)))), (42, .d (rowsD (G.map enIs))), (43, .d (.v (.int .i64 (G.length : Int)))), (44, .d (.v (.int .i64 (j : Int)))), (50, .d (enIs r)), (51, .d (.v (.int .i64 (r.length : Int)))), (52, .d (.v (.int .i64 (q : Int))))], []⟩) (fun q => q ≤ r.length) (fun q => r.length - q) 0 (Nat.zero_le _) ⟨rfl, rfl, rfl, rfl, rfl, rfl, rfl, rfl, rfl, rfl, trivial⟩ trivial ?_
    intro q hq
    dsimp only
    refine wk ?_
    refine s1 (fun g2 => ?_) (fun g2 => ?_)
    ·have hq1 : q < r.length := by omega
     have hv : r[q]? = some r[q] := List.getElem?_eq_getElem hq1
     have hqs : U ++ (bOf ++ spW ((r.take q).map Lib.itoa)) ++ ([32] ++ Lib.itoa r[q]) = U ++ (bOf ++ spW ((r.take (q + 1)).map Lib.itoa)) := by
      rw [List.take_succ_eq_append_getElem hq1, List.map_append, List.map_singleton, spW_snoc]
      simp
     have b5 := b4 _ (List.getElem_mem hq1)
     have hL1 := hLS (q + 1)
     generalize r[q] = v at hv b5 hqs
     have hLv := itoa_32 b5
     have hit := (itoaF v (by omega) (by omega)).lift (Kw := Kw)
     generalize Lib.itoa v = z at hqs hLv hit
     refine wk ?_
     refine c1 hit ?_
     ((try (first | intro K ms hms hK | intro K hK)); (first | apply Chain.go | apply Chain.goD); exact rfl; exact rfl; exact Loc.addT (a := [32]) (b := z) ([32] ++ z) rfl rfl rfl rfl (by simp; omega))
     refine wk ?_
     ((try (first | intro K ms hms hK | intro K hK)); (first | apply Chain.go | apply Chain.goD); exact rfl; exact rfl; exact Loc.addT (a := U ++ (bOf ++ spW ((r.take q).map Lib.itoa))) (b := [32] ++ z) (U ++ (bOf ++ spW ((r.take (q + 1)).map Lib.itoa))) rfl rfl rfl hqs (by rw [List.length_append, List.length_append]; omega))
     refine wk ?_
     exact ⟨q + 1, hq1, by omega, ⟨rfl, rfl, rfl, rfl, rfl, rfl, rfl, rfl, rfl, rfl, trivial⟩, trivial⟩
    ·obtain rfl : q = r.length := by omega
     have hL1 := hLS r.length
     rw [List.take_length] at hL1 ⊢
     refine wk ?_
     ((try (first | intro K ms hms hK | intro K hK)); (first | apply Chain.go | apply Chain.goD); exact rfl; exact rfl; exact Loc.addT (a := U ++ (bOf ++ spW (r.map Lib.itoa))) (b := [10]) V rfl rfl rfl hend (by omega))
     subst hV
     refine wk ?_
     exact ⟨j + 1, hj1, by omega, ⟨rfl, rfl, rfl, rfl, rfl, rfl, rfl, trivial⟩, trivial⟩
   ·obtain rfl : j = G.length := by omega
    rw [List.take_length, ← hn1]
    subst hT2
    refine wk ?_
    exact ⟨i + 1, hi1, by omega, ⟨rfl, rfl, rfl, rfl, trivial⟩, trivial⟩
 ·obtain rfl : i = ls.length := by omega
  rw [List.take_length]
  refine wk ?_
  exact ⟨.d rfl (.inl rfl), .d rfl (.inl rfl), trivial⟩
set_option maxRecDepth 100000 in
set_option maxHeartbeats 16000000 in
theorem text15F {Kw : World → Prop} [KSt Kw] [KHas Kw Tab] (n : Int) (ls : List LN) (hn : 0 < n ∧ n ≤ 32) (hfit : ∀ l ∈ ls, fitL l ∧ okY l) (p1 : ls.length ≤ 16) : FnK Tryz.prog 49 Kw [.g (enDN n ls)] [.d (.v (.string (tx (netY n ls))))] := by
 have hit0 := (itoaF n (by omega) (by omega)).lift (Kw := Kw)
 have hI0 := Lib.itoa_length_le n (by omega) (by omega)
 refine FnK.of Tryz.func49 rfl (by kernel_rfl) Tryz.ntmps49 Tryz.results49 rfl fun w0 S0 hK0 => ?_
 refine wk ?_
 refine c1 hit0 ?_
 ((try (first | intro K ms hms hK | intro K hK)); (first | apply Chain.go | apply Chain.goD); exact rfl; exact rfl; exact Loc.addT (a := [110, 101, 116, 32]) (b := Lib.itoa n) ([110, 101, 116, 32] ++ Lib.itoa n) rfl rfl rfl rfl (by simp; omega))
 refine wk ?_
 ((try (first | intro K ms hms hK | intro K hK)); (first | apply Chain.go | apply Chain.goD); exact rfl; exact rfl; exact Loc.addT (a := [110, 101, 116, 32] ++ Lib.itoa n) (b := [10]) (netY n (ls.take 0)) rfl rfl rfl (netY_nil n) (Nat.le_trans (netY_len (ls := []) (by omega) (fun l h => nomatch h) (by decide)) (by decide)))
 refine wk ?_
 refine AC.loop (X := Nat) (fun i => ⟨[(3, .d (.v (.string (tx (netY n (ls.take i)))))), (20, .d (.l (ls.map enLD))), (21, .d (.v (.int .i64 (ls.length : Int)))), (22, .d (.v (.int .i64 (i : Int))))], []⟩) (fun i => i ≤ ls.length) (fun i => ls.length - i) 0 (Nat.zero_le _) ⟨rfl, rfl, rfl, rfl, trivial⟩ trivial ?_
 intro i hi
 dsimp only
 refine wk ?_
 refine s1 (fun h1 => ?_) (fun h1 => ?_)
 ·have hi1 : i < ls.length := by omega
  have hx : ls[i]? = some ls[i] := List.getElem?_eq_getElem hi1
  have hT : ls.take (i + 1) = ls.take i ++ [ls[i]] := List.take_succ_eq_append_getElem hi1
  obtain ⟨⟨a, c, d⟩, hok⟩ := hfit _ (List.getElem_mem hi1)
  have hlen : (netY n (ls.take i)).length ≤ 20000000 := netY_len (by omega) (fun l h => hfit l (List.mem_of_mem_take h)) (by simp; omega)
  have hnx := netY_snoc n (ls.take i) ls[i]
  rw [← hT] at hnx
  generalize hT2 : netY n (ls.take (i + 1)) = T2 at hnx
  generalize netY n (ls.take i) = T at hnx hlen ⊢
  generalize ls[i] = x at hx a c d hok hnx
  clear hT
  obtain ⟨k, W, B, G⟩ := x
  have hWl : (W.map enQs).length = W.length := List.length_map ..
  have hGl : (G.map enIs).length = G.length := List.length_map ..
  rcases hok with ⟨hk, hB⟩ | hk | ⟨hk, hG⟩ <;> dsimp only at hk a c d <;> subst hk
  ·have hkk : (⟨1, W, B, G⟩ : LN).kind = 1 := rfl
   obtain ⟨a1, a2⟩ := a rfl
   dsimp only at hB
   have hrl := rows_len (W := W) (B := B) a1 a2 c
   have hn1 : T2 = T ++ unl (bAff :: (W.zip B).map rowY) := hnx
   refine wk ?_
   ((try (first | intro K ms hms hK | intro K hK)); (first | apply Chain.go | apply Chain.goD); exact rfl; exact rfl; exact Loc.addT (b := [97, 102, 102, 105, 110, 101, 10]) (T ++ unl (bAff :: ((W.zip B).take 0).map rowY)) rfl rfl rfl rfl (by have := hrl 0; rw [List.length_append]; omega))
   refine wk ?_
   refine AC.loop (X := Nat) (fun j => ⟨[(3, .d (.v (.string (tx (T ++ unl (bAff :: ((W.zip B).take j).map rowY)))))), (5, .p 5 0), (20, .d (.l (ls.map enLD))), (21, .d (.v (.int .i64 (ls.length : Int)))), (22, .d (.v (.int .i64 (i : Int)))), (37, .d (rowsD (W.map enQs))), (38, .d (.v (.int .i64 (W.length : Int)))), (39, .d (.v (.int .i64 (j : Int))))], [(5, .box 62 [.d (.v (.int .i64 1)), .d (rowsD (W.map enQs)), .d (enQs B), .d (rowsD (G.map enIs))])]⟩) (fun j => j ≤ W.length) (fun j => W.length - j) 0 (Nat.zero_le _) ⟨rfl, rfl, rfl, rfl, rfl, rfl, ivw (by dsimp only; omega), rfl, trivial⟩ ⟨rfl, trivial⟩ ?_
   intro j hj
   dsimp only
   refine wk ?_
   refine s1 (fun g1 => ?_) (fun g1 => ?_)
   ·have hj1 : j < W.length := by omega
    have hjB : j < B.length := by omega
    have hjz : j < (W.zip B).length := by rw [List.length_zip]; omega
    have hr : (W.map enQs)[j]? = some (enQs W[j]) := gm enQs hj1
    have hb : B[j]? = some B[j] := List.getElem?_eq_getElem hjB
    have hz : (W.zip B).take (j + 1) = (W.zip B).take j ++ [(W[j], B[j])] := by rw [List.take_succ_eq_append_getElem hjz, List.getElem_zip]
    have hUl : (T ++ unl (bAff :: ((W.zip B).take j).map rowY)).length ≤ 30000000 := by have := hrl j; rw [List.length_append]; omega
    have hVl : (T ++ unl (bAff :: ((W.zip B).take (j + 1)).map rowY)).length ≤ 30000000 := by have := hrl (j + 1); rw [List.length_append]; omega
    have hend := fun U hU => row_end (r := W[j]) (b := B[j]) T U ((W.zip B).take j) hU
    rw [← hz] at hend
    have b1 := a2 _ (List.getElem_mem hj1)
    have b2 := c _ (List.getElem_mem hjB)
    generalize hV : T ++ unl (bAff :: ((W.zip B).take (j + 1)).map rowY) = V at hVl hend
    generalize hU : T ++ unl (bAff :: ((W.zip B).take j).map rowY) = U at hUl ⊢
    have hend := hend U hU
    generalize W[j] = r at hr b1 hend
    generalize B[j] = b at hb b2 hend
    clear hz hU
    obtain ⟨b3, b4⟩ := b1
    have hLS := rowP_len (r := r) b3 b4
    have hLb := printL_256 b2
    have h3 : bRow.length = 3 := rfl
    refine wk ?_
    ((try (first | intro K ms hms hK | intro K hK)); (first | apply Chain.go | apply Chain.goD); exact rfl; exact rfl; exact Loc.addT (b := [114, 111, 119]) (U ++ (bRow ++ spW ((r.take 0).map printL))) rfl rfl rfl rfl (by have := hLS 0; rw [List.length_append, List.length_append]; omega))
    refine wk ?_
    refine AC.loop (X := Nat) (fun q => ⟨[(3, .d (.v (.string (tx (U ++ (bRow ++ spW ((r.take q).map printL))))))), (5, .p 5 0), (6, .d (.v (.int .i64 (j : Int)))), (20, .d (.l (ls.map enLD))), (21, .d (.v (.int .i64 (ls.length : Int)))), (22, .d (.v (.int .i64 (i : Int)))), (37, .d (rowsD (W.map enQs))), (38, .d (.v (.int .i64 (W.length : Int)))), (39, .d (.v (.int .i64 (j : Int)))), (46, .d (enQs r)), (47, .d (.v (.int .i64 (r.length : Int)))), (48, .d (.v (.int .i64 (q : Int))))], [(5, .box 62 [.d (.v (.int .i64 1)), .d (rowsD (W.map enQs)), .d (enQs B), .d (rowsD (G.map enIs))])]⟩) (fun q => q ≤ r.length) (fun q => r.length - q) 0 (Nat.zero_le _) ⟨rfl, rfl, rfl, rfl, rfl, rfl, rfl, rfl, rfl, rfl, rfl, rfl, trivial⟩ ⟨rfl, trivial⟩ ?_
    intro q hq
    dsimp only
    refine wk ?_
    refine s1 (fun g2 => ?_) (fun g2 => ?_)
    ·have hq1 : q < r.length := by omega
     have hv : r[q]? = some r[q] := List.getElem?_eq_getElem hq1
     have hqs : U ++ (bRow ++ spW ((r.take q).map printL)) ++ ([32] ++ printL r[q]) = U ++ (bRow ++ spW ((r.take (q + 1)).map printL)) := by
      rw [List.take_succ_eq_append_getElem hq1, List.map_append, List.map_singleton, spW_snoc]
      simp
     have b5 := b4 _ (List.getElem_mem hq1)
     have hL1 := hLS (q + 1)
     generalize r[q] = v at hv b5 hqs
     have hLv := printL_256 b5
     refine wk ?_
     refine c1 (printQ (k := 256) v b5 (by decide)) ?_
     ((try (first | intro K ms hms hK | intro K hK)); (first | apply Chain.go | apply Chain.goD); exact rfl; exact rfl; exact Loc.addT (a := [32]) (b := printL v) ([32] ++ printL v) rfl rfl rfl rfl (by simp; omega))
     refine wk ?_
     ((try (first | intro K ms hms hK | intro K hK)); (first | apply Chain.go | apply Chain.goD); exact rfl; exact rfl; exact Loc.addT (a := U ++ (bRow ++ spW ((r.take q).map printL))) (b := [32] ++ printL v) (U ++ (bRow ++ spW ((r.take (q + 1)).map printL))) rfl rfl rfl hqs (by rw [List.length_append, List.length_append]; omega))
     refine wk ?_
     exact ⟨q + 1, hq1, by omega, ⟨rfl, rfl, rfl, rfl, rfl, rfl, rfl, rfl, rfl, rfl, rfl, rfl, trivial⟩, ⟨rfl, trivial⟩⟩
    ·obtain rfl : q = r.length := by omega
     have hL1 := hLS r.length
     rw [List.take_length] at hL1 ⊢
     refine wk ?_
     refine c1 (printQ (k := 256) b b2 (by decide)) ?_
     ((try (first | intro K ms hms hK | intro K hK)); (first | apply Chain.go | apply Chain.goD); exact rfl; exact rfl; exact Loc.addT (a := [32]) (b := printL b) ([32] ++ printL b) rfl rfl rfl rfl (by simp; omega))
     refine wk ?_
     ((try (first | intro K ms hms hK | intro K hK)); (first | apply Chain.go | apply Chain.goD); exact rfl; exact rfl; exact Loc.addT (a := [32] ++ printL b) (b := [10]) ([32] ++ printL b ++ [10]) rfl rfl rfl rfl (by simp; omega))
     refine wk ?_
     ((try (first | intro K ms hms hK | intro K hK)); (first | apply Chain.go | apply Chain.goD); exact rfl; exact rfl; exact Loc.addT (a := U ++ (bRow ++ spW (r.map printL))) (b := [32] ++ printL b ++ [10]) V rfl rfl rfl hend (by omega))
     subst hV
     refine wk ?_
     exact ⟨j + 1, hj1, by omega, ⟨rfl, rfl, rfl, rfl, rfl, rfl, rfl, rfl, trivial⟩, ⟨rfl, trivial⟩⟩
   ·obtain rfl : j = W.length := by omega
    rw [List.take_of_length_le (by rw [List.length_zip]; omega), ← hn1]
    subst hT2
    refine wk ?_
    exact ⟨i + 1, hi1, by omega, ⟨rfl, rfl, rfl, rfl, trivial⟩, trivial⟩
  ·have hkk : (⟨2, W, B, G⟩ : LN).kind = 2 := rfl
   have hn2 : T2 = T ++ [114, 101, 108, 117, 10] := hnx
   subst hT2
   refine wk ?_
   ((try (first | intro K ms hms hK | intro K hK)); (first | apply Chain.go | apply Chain.goD); exact rfl; exact rfl; exact Loc.addT (b := [114, 101, 108, 117, 10]) (netY n (ls.take (i + 1))) rfl rfl rfl hn2.symm (by rw [hn2]; simp; omega))
   refine wk ?_
   exact ⟨i + 1, hi1, by omega, ⟨rfl, rfl, rfl, rfl, trivial⟩, trivial⟩
  ·have hkk : (⟨3, W, B, G⟩ : LN).kind = 3 := rfl
   obtain ⟨a1, a2⟩ := d rfl
   have hrl := ofs_len (G := G) a1 a2
   have hn1 : T2 = T ++ unl (bMax :: G.map ofY) := hnx
   refine wk ?_
   ((try (first | intro K ms hms hK | intro K hK)); (first | apply Chain.go | apply Chain.goD); exact rfl; exact rfl; exact Loc.addT (b := [109, 97, 120, 10]) (T ++ unl (bMax :: (G.take 0).map ofY)) rfl rfl rfl rfl (by have := hrl 0; rw [List.length_append]; omega))
   refine wk ?_
   refine AC.loop (X := Nat) (fun j => ⟨[(3, .d (.v (.string (tx (T ++ unl (bMax :: (G.take j).map ofY)))))), (20, .d (.l (ls.map enLD))), (21, .d (.v (.int .i64 (ls.length : Int)))), (22, .d (.v (.int .i64 (i : Int)))), (75, .d (rowsD (G.map enIs))), (76, .d (.v (.int .i64 (G.length : Int)))), (77, .d (.v (.int .i64 (j : Int))))], []⟩) (fun j => j ≤ G.length) (fun j => G.length - j) 0 (Nat.zero_le _) ⟨rfl, rfl, rfl, rfl, rfl, ivw (by dsimp only; omega), rfl, trivial⟩ trivial ?_
   intro j hj
   dsimp only
   refine wk ?_
   refine s1 (fun g1 => ?_) (fun g1 => ?_)
   ·have hj1 : j < G.length := by omega
    have hr : (G.map enIs)[j]? = some (enIs G[j]) := gm enIs hj1
    have hz : G.take (j + 1) = G.take j ++ [G[j]] := List.take_succ_eq_append_getElem hj1
    have hUl : (T ++ unl (bMax :: (G.take j).map ofY)).length ≤ 30000000 := by have := hrl j; rw [List.length_append]; omega
    have hVl : (T ++ unl (bMax :: (G.take (j + 1)).map ofY)).length ≤ 30000000 := by have := hrl (j + 1); rw [List.length_append]; omega
    have hend := fun U hU => of_end (g := G[j]) T U (G.take j) hU
    rw [← hz] at hend
    have b1 := a2 _ (List.getElem_mem hj1)
    generalize hV : T ++ unl (bMax :: (G.take (j + 1)).map ofY) = V at hVl hend
    generalize hU : T ++ unl (bMax :: (G.take j).map ofY) = U at hUl ⊢
    have hend := hend U hU
    obtain ⟨r, hre⟩ : ∃ r, G[j] = r := ⟨_, rfl⟩
    rw [hre] at hr b1 hend
    clear hz hU hre
    obtain ⟨b3, b4⟩ := b1
    have hLS := ofP_len (r := r) b3 b4
    have h3 : bOf.length = 2 := rfl
    refine wk ?_
    ((try (first | intro K ms hms hK | intro K hK)); (first | apply Chain.go | apply Chain.goD); exact rfl; exact rfl; exact Loc.addT (b := [111, 102]) (U ++ (bOf ++ spW ((r.take 0).map Lib.itoa))) rfl rfl rfl rfl (by have := hLS 0; rw [List.length_append, List.length_append]; omega))
    refine wk ?_
    refine AC.loop (X := Nat) (fun q => ⟨[(3, .d (.v (.string (tx (U ++ (bOf ++ spW ((r.take q).map Lib.itoa))))))), (20, .d (.l (ls.map enLD))), (21, .d (.v (.int .i64 (ls.length : Int)))), (22, .d (.v (.int .i64 (i : Int)))), (75, .d (rowsD (G.map enIs))), (76, .d (.v (.int .i64 (G.length : Int)))), (77, .d (.v (.int .i64 (j : Int)))), (83, .d (enIs r)), (84, .d (.v (.int .i64 (r.length : Int)))), (85, .d (.v (.int .i64 (q : Int))))], []⟩) (fun q => q ≤ r.length) (fun q => r.length - q) 0 (Nat.zero_le _) ⟨rfl, rfl, rfl, rfl, rfl, rfl, rfl, rfl, rfl, rfl, trivial⟩ trivial ?_
    intro q hq
    dsimp only
    refine wk ?_
    refine s1 (fun g2 => ?_) (fun g2 => ?_)
    ·have hq1 : q < r.length := by omega
     have hv : r[q]? = some r[q] := List.getElem?_eq_getElem hq1
     have hqs : U ++ (bOf ++ spW ((r.take q).map Lib.itoa)) ++ ([32] ++ Lib.itoa r[q]) = U ++ (bOf ++ spW ((r.take (q + 1)).map Lib.itoa)) := by
      rw [List.take_succ_eq_append_getElem hq1, List.map_append, List.map_singleton, spW_snoc]
      simp
     have b5 := b4 _ (List.getElem_mem hq1)
     have hL1 := hLS (q + 1)
     generalize r[q] = v at hv b5 hqs
     have hLv := itoa_32 b5
     have hit := (itoaF v (by omega) (by omega)).lift (Kw := Kw)
     generalize Lib.itoa v = z at hqs hLv hit
     refine wk ?_
     refine c1 hit ?_
     ((try (first | intro K ms hms hK | intro K hK)); (first | apply Chain.go | apply Chain.goD); exact rfl; exact rfl; exact Loc.addT (a := [32]) (b := z) ([32] ++ z) rfl rfl rfl rfl (by simp; omega))
     refine wk ?_
     ((try (first | intro K ms hms hK | intro K hK)); (first | apply Chain.go | apply Chain.goD); exact rfl; exact rfl; exact Loc.addT (a := U ++ (bOf ++ spW ((r.take q).map Lib.itoa))) (b := [32] ++ z) (U ++ (bOf ++ spW ((r.take (q + 1)).map Lib.itoa))) rfl rfl rfl hqs (by rw [List.length_append, List.length_append]; omega))
     refine wk ?_
     exact ⟨q + 1, hq1, by omega, ⟨rfl, rfl, rfl, rfl, rfl, rfl, rfl, rfl, rfl, rfl, trivial⟩, trivial⟩
    ·obtain rfl : q = r.length := by omega
     have hL1 := hLS r.length
     rw [List.take_length] at hL1 ⊢
     refine wk ?_
     ((try (first | intro K ms hms hK | intro K hK)); (first | apply Chain.go | apply Chain.goD); exact rfl; exact rfl; exact Loc.addT (a := U ++ (bOf ++ spW (r.map Lib.itoa))) (b := [10]) V rfl rfl rfl hend (by omega))
     subst hV
     refine wk ?_
     exact ⟨j + 1, hj1, by omega, ⟨rfl, rfl, rfl, rfl, rfl, rfl, rfl, trivial⟩, trivial⟩
   ·obtain rfl : j = G.length := by omega
    rw [List.take_length, ← hn1]
    subst hT2
    refine wk ?_
    exact ⟨i + 1, hi1, by omega, ⟨rfl, rfl, rfl, rfl, trivial⟩, trivial⟩
 ·obtain rfl : i = ls.length := by omega
  rw [List.take_length]
  refine wk ?_
  exact ⟨.d rfl (.inl rfl), trivial⟩
end Go.Proofs.YthdkkpocihkgbaaGreatDoor
