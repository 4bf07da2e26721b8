/-
 The document's reader of networks (attestref15.Parse).
-/
import Derived.Test.YthdkkpocihkgbaaGreatDoorNuB
import Derived.Test.YthdkkpocihkgbaaGreatDoorNtK
namespace Go.Proofs.YthdkkpocihkgbaaGreatDoor
open Go.RowKit
attribute [local irreducible] AC Do St
def rowsOfD (s : NS) (xW xB xG : Value) : List (List D) := s.ls.map enLD ++ (match s.last with
 | none => []
 | some l => [[.v (.int .i64 l.kind), .v xW, .v xB, .v xG]])
def lastWD (s : NS) : List (List D) := match s.last with
 | none => []
 | some l => l.W.map fun r => [enQs r]
def lastBD (s : NS) : List (List D) := match s.last with
 | none => []
 | some l => l.B.map enQ
def docR : NS ⊕ Nat → List DV
 | .inr k => [.g (enDN 0 []), .d (.v (.int .i64 (k : Int)))]
 | .inl s => [.g (enDN s.inn s.all), .d (.v (.int .i64 0))]
theorem rowsD_get (ls : List LN) (c : List D) : (ls.map enLD ++ [c])[ls.length]? = some c := by
 rw [List.getElem?_append_right (by simp)]
 simp
theorem rowsD_set (ls : List LN) (c c' : List D) : (ls.map enLD ++ [c]).set ls.length c' = ls.map enLD ++ [c'] := by
 have := List.set_append_right (s := ls.map enLD) (t := [c]) (i := ls.length) (x := c') (by simp)
 simp at this ⊢
theorem rowsD_getM (ls : List LN) (c n : List D) : (ls.map enLD ++ [c] ++ [n])[ls.length]? = some c := by simp
theorem rowsD_setM (ls : List LN) (c c' n : List D) : (ls.map enLD ++ [c] ++ [n]).set ls.length c' = ls.map enLD ++ [c'] ++ [n] := by
 have := List.set_append_right (s := ls.map enLD) (t := [c] ++ [n]) (i := ls.length) (x := c') (by simp)
 simp at this ⊢
theorem rowR_putMD {x1 x0 : Value} {e1 e : TypeId} {k1 k j : Nat} {ls : List LN} {c n : List D} {ys : List (List D)} (hj : c[j]? = some (.v x0)) (S : Nat → Prop) (w : World) (h0 : rowR x0 e k ys S w) (hb : ∀ b, blk x0 = some b → S b) (h : rowR x1 e1 k1 (ls.map enLD ++ [c] ++ [n]) S w) : rowR x1 e1 k1 (ls.map enLD ++ [c.set j (.l ys)] ++ [n]) S w := by
 have := rowR_put (i := ls.length) (rowsD_getM ls c n) hj S w h0 hb h
 rwa [rowsD_setM] at this
theorem rowR_put1D {x1 x0 : Value} {e1 e : TypeId} {k1 k j : Nat} {ls : List LN} {c : List D} {ys : List (List D)} (hj : c[j]? = some (.v x0)) (S : Nat → Prop) (w : World) (h0 : rowR x0 e k ys S w) (hb : ∀ b, blk x0 = some b → S b) (h : rowR x1 e1 k1 (ls.map enLD ++ [c]) S w) : rowR x1 e1 k1 (ls.map enLD ++ [c.set j (.l ys)]) S w := by
 have := rowR_put (i := ls.length) (rowsD_get ls c) hj S w h0 hb h
 rwa [rowsD_set] at this
theorem rowsD_end (inn : Int) (ls : List LN) (l : LN) (kv : Int) : ls.map enLD ++ [[.v (.int .i64 l.kind), .l (lastWD ⟨inn, ls, some l⟩), .l (lastBD ⟨inn, ls, some l⟩), .l (lastG ⟨inn, ls, some l⟩)]] ++ [[.v (.int .i64 kv), .v nil3, .v nil3, .v nil3]] = rowsOfD ⟨inn, ls ++ [l], some ⟨kv, [], [], []⟩⟩ nil3 nil3 nil3 := by
 simp [rowsOfD, enLD, lastWD, lastBD, lastG, rowsD, enQs]
theorem rowsD_all (inn : Int) (ls : List LN) (l : LN) : ls.map enLD ++ [[.v (.int .i64 l.kind), .l (lastWD ⟨inn, ls, some l⟩), .l (lastBD ⟨inn, ls, some l⟩), .l (lastG ⟨inn, ls, some l⟩)]] = (ls ++ [l]).map enLD := by
 simp [enLD, lastWD, lastBD, lastG, rowsD, enQs]
section
variable {P : Program} {C : Cx} {σ : AS}
/-- The document's net's own things become data. -/
theorem Chain.frzNetD {ops : Array Oper} {fin : List Inf → Prop} {Q : AS → Prop} {rest : List Oper} {b : Nat} {xL xW xB xG : Value} {s : NS} {T1 T2 T3 T4 T5 : TypeId} (hwf : s.last = none → s.ls = []) (h0 : get? σ.objs 4 = some (boxO b T1 [.v (.int .i64 s.inn), .v xL])) (h1 : get? σ.objs 50 = some (rowO xL T2 4 (rowsOfD s xW xB xG))) (h2 : get? σ.objs 51 = some (rowO xW T3 1 (lastWD s))) (h3 : get? σ.objs 52 = some (rowO xB T4 3 (lastBD s))) (h4 : get? σ.objs 53 = some (rowO xG T5 1 (lastG s)))
  (k : ∀ O', (∀ i, i ≠ 4 → i < 50 → get? O' i = get? σ.objs i) → get? O' 4 = some (boxO b T1 (enDN s.inn s.all)) → Chain P C ops fin Q none rest ⟨σ.env, O'⟩) : Chain P C ops fin Q none rest σ := by
 have hlow : ∀ (x : AO) (i j : Nat) (O : List (Nat × AO)), i < 50 → 50 ≤ j → get? ((j, x) :: O) i = get? O i := fun x i j O h1 h2 => by rw [get?_cons, if_neg (by omega)]
 have h5 : ∀ (x : AO) (i : Nat) (O : List (Nat × AO)), i ≠ 4 → get? ((4, x) :: O) i = get? O i := fun x i O h1 => by rw [get?_cons, if_neg (Ne.symm h1)]
 obtain ⟨inn, ls, last⟩ := s
 cases last with
 | none =>
  obtain rfl : ls = [] := hwf rfl
  refine Chain.frzIn 4 50 (boxR b T1 (enDN inn [])) (by decide) h1 h0 (boxR_stable _ _ _) (fun S w h0 hb h => boxR_put (cs := [.v (.int .i64 inn), .v xL]) (j := 1) rfl S w h0 hb h) ?_
  exact k _ (fun i g1 g2 => by rw [h5 _ _ _ g1, hlow _ _ _ _ g2 (by omega)]) (by rw [get?_cons, if_pos rfl]; rfl)
 | some l =>
  refine Chain.frzIn 50 51 (rowR xL _ 4 (ls.map enLD ++ [[D.v (.int .i64 l.kind), D.l (lastWD ⟨inn, ls, some l⟩), D.v xB, D.v xG]])) (by decide) h2 h1 (rowR_stable _ _ _ _) (fun S w h0 hb h => rowR_put1D (c := [D.v (.int .i64 l.kind), D.v xW, D.v xB, D.v xG]) (j := 1) rfl S w h0 hb h) ?_
  refine Chain.frzIn 50 52 (rowR xL _ 4 (ls.map enLD ++ [[D.v (.int .i64 l.kind), D.l (lastWD ⟨inn, ls, some l⟩), D.l (lastBD ⟨inn, ls, some l⟩), D.v xG]])) (by decide) h3 rfl (rowR_stable _ _ _ _) (fun S w h0 hb h => rowR_put1D (c := [D.v (.int .i64 l.kind), D.l (lastWD ⟨inn, ls, some l⟩), D.v xB, D.v xG]) (j := 2) rfl S w h0 hb h) ?_
  refine Chain.frzIn 50 53 (rowR xL _ 4 ((ls ++ [l]).map enLD)) (by decide) h4 rfl (rowR_stable _ _ _ _) (fun S w h0 hb h => by rw [← rowsD_all inn]; exact rowR_put1D (c := [D.v (.int .i64 l.kind), D.l (lastWD ⟨inn, ls, some l⟩), D.l (lastBD ⟨inn, ls, some l⟩), D.v xG]) (j := 3) rfl S w h0 hb h) ?_
  refine Chain.frzIn 4 50 (boxR b T1 (enDN inn (ls ++ [l]))) (by decide) rfl h0 (boxR_stable _ _ _) (fun S w h0 hb h => boxR_put (cs := [.v (.int .i64 inn), .v xL]) (j := 1) rfl S w h0 hb h) ?_
  exact k _ (fun i g1 g2 => by rw [h5 _ _ _ g1, hlow _ _ _ _ g2 (by omega), hlow _ _ _ _ g2 (by omega), hlow _ _ _ _ g2 (by omega), hlow _ _ _ _ g2 (by omega), hlow _ _ _ _ g2 (by omega), hlow _ _ _ _ g2 (by omega), hlow _ _ _ _ g2 (by omega)]) (by rw [get?_cons, if_pos rfl]; rfl)
theorem Chain.nilG {ops : Array Oper} {fin : List Inf → Prop} {Q : AS → Prop} {rest : List Oper} (t : Nat) {cs : List D} (ht : get? σ.env t = some (.g cs)) (h : Chain P C ops fin Q none rest ⟨(t, .g (cs.map D.nv)) :: σ.env, σ.objs⟩) : Chain P C ops fin Q none rest σ := .weak _ (fun _ _ hs => hs.nilG t ht) h
end
theorem lineS_first {inn : Int} {h : List UInt8} {t : List (List UInt8)} (n1 : h ≠ bNet) : lineS ⟨inn, [], none⟩ h t true = none := by
 unfold lineS
 rw [if_neg n1]
 cases kindOf h with
 | some k => exact if_neg (by simp)
 | none =>
  dsimp only
  split
  ·rfl
  ·split <;> rfl
theorem lineS_netT {s : NS} {t : List (List UInt8)} (ht : t.length ≠ 1) : lineS s bNet t true = none := by
 unfold lineS
 rw [if_pos rfl]
 match t, ht with
 | [], _ => rfl
 | [x], h => exact absurd rfl h
 | _ :: _ :: _, _ => rfl
theorem lineS_net1 {s : NS} {x : List UInt8} : lineS s bNet [x] true = match cntN x with
  | some n => some ⟨n, s.ls, s.last⟩
  | none => none := by
 unfold lineS
 rw [if_pos rfl]
 rfl
theorem lineS_oth {s : NS} {h : List UInt8} {t : List (List UInt8)} (n2 : h ≠ bAff) (n3 : h ≠ bRel) (n4 : h ≠ bMax) (n5 : h ≠ bRow) (n6 : h ≠ bOf) : lineS s h t false = none := by
 unfold lineS
 by_cases n1 : h = bNet
 ·rw [if_pos n1]
  match t with
  | [] => rfl
  | [x] => dsimp only; cases cntN x <;> rfl
  | _ :: _ :: _ => rfl
 have hk : kindOf h = none := by
  unfold kindOf
  rw [if_neg n2, if_neg n3, if_neg n4]
 rw [if_neg n1, hk]
 dsimp only
 rw [if_neg n5, if_neg n6]
theorem dgN_none {l : List UInt8} (h : cntN l = none) : dgN l = -1 := by
 unfold dgN
 rw [h]
 split <;> rfl
theorem dgN_some {l : List UInt8} {n : Nat} (h0 : l ≠ []) (h : cntN l = some n) : dgN l = (n : Int) := by
 unfold dgN
 rw [h, if_neg h0]
theorem neF {l m : List UInt8} (h : l = m) : (!((tx l).toList == (tx m).toList)) = false := by rw [eqT h]; rfl
theorem neTT {l m : List UInt8} (h : l ≠ m) : (!((tx l).toList == (tx m).toList)) = true := by rw [neT h]; rfl
/-- The same for the document's net; literals wait. -/
theorem wd {p q : Prop} (k : q) (hs : Wk q → p := by
  intro k
  try (first | intro K ms hms hK | intro K hK)
  repeat (first
   | refine Chain.no rfl rfl ?_
   | refine Chain.noD rfl rfl ?_
   | ((first | apply Chain.go | apply Chain.goD); exact rfl; exact rfl; first
    | exact Loc.move (v := .d _) rfl rfl
    | exact Loc.assign (v := .d _) rfl rfl
    | exact Loc.nilV rfl rfl
    | exact Loc.nilP rfl rfl rfl
    | exact Loc.fieldV rfl rfl
    | exact Loc.lenV rfl rfl
    | exact Loc.loadB1 (id := 4) rfl rfl rfl rfl
    | exact Loc.loadP1 rfl rfl rfl rfl
    | exact Loc.loadQ1 rfl rfl rfl
    | exact Loc.fieldP rfl rfl rfl
    | exact Loc.fieldQ rfl rfl
    | exact Loc.pickT (v := .d _) rfl rfl rfl
    | exact Loc.pickF (v := .d _) rfl rfl rfl
    | exact Loc.loadPn rfl rfl rfl rfl (by kernel_rfl)
    | exact Loc.loadQw rfl rfl rfl
    | exact Loc.loadQn rfl rfl rfl rfl
    | exact Loc.idxM rfl rfl rfl rfl (by assumption) rfl
    | exact Loc.lenM rfl rfl
    | exact Loc.lenN rfl rfl
    | exact Loc.lenR rfl rfl rfl
    | exact Loc.len rfl rfl
    | exact Loc.lssT rfl rfl rfl (by omega)
    | exact Loc.lssF rfl rfl rfl (by omega)
    | exact Loc.eqlT rfl rfl rfl (by omega)
    | exact Loc.eqlF rfl rfl rfl (by omega)
    | exact Loc.neqT rfl rfl rfl (by omega)
    | exact Loc.neqF rfl rfl rfl (by omega)
    | exact Loc.gtrT rfl rfl rfl (by omega)
    | exact Loc.gtrF rfl rfl rfl (by omega)
    | exact Loc.geqT rfl rfl rfl (by omega)
    | exact Loc.geqF rfl rfl rfl (by omega)
    | exact Loc.leqT rfl rfl rfl (by omega)
    | exact Loc.leqF rfl rfl rfl (by omega)
    | exact Loc.add rfl rfl rfl (IntWalk.i64_in _ (by omega))
    | exact Loc.sub rfl rfl rfl (IntWalk.i64_in _ (by omega))
    | exact Loc.notT rfl rfl
    | exact Loc.notF rfl rfl
    | exact Loc.fieldE rfl rfl rfl
    | exact Loc.loadE1 rfl rfl rfl (by assumption) rfl
    | exact Loc.idxR rfl rfl rfl rfl rfl (by omega) rfl
    | exact Loc.move (v := .g _) rfl rfl
    | exact Loc.move (v := .p _ _) rfl rfl
    | exact Loc.move (v := .r _ _) rfl rfl
    | exact Loc.move (v := .t _) rfl rfl
    | exact Loc.assign (v := .g _) rfl rfl
    | exact Loc.assign (v := .r _ _) rfl rfl
    | exact Loc.assign (v := .p _ _) rfl rfl
    | exact Loc.extract (v := .d _) rfl rfl rfl rfl
    | exact Loc.extract (v := .g _) rfl rfl rfl rfl
    | exact Loc.pickT (v := .g _) rfl rfl rfl
    | exact Loc.pickF (v := .g _) rfl rfl rfl
    | exact Loc.move (v := .un) rfl rfl
    | exact Loc.build rfl rfl rfl rfl)
   | refine Chain.nil0 (hK _ ?_)
   | ((first | apply Chain.st | apply Chain.stD); exact rfl; exact rfl; (first
    | exact Do.storeB (id := 4) rfl rfl rfl rfl rfl rfl rfl rfl
    | exact Do.storeP rfl rfl rfl rfl .g rfl rfl rfl
    | exact Do.storeP rfl rfl rfl rfl .d rfl rfl rfl
    | exact Do.storeP rfl rfl rfl rfl (.r rfl) rfl rfl rfl); exact rfl; exact rfl)
   | ((first | apply Chain.ef | apply Chain.efD); exact rfl; exact rfl; (first
    | exact Do.alloc rfl rfl rfl
    | exact Do.box rfl rfl rfl .g rfl
    | exact Do.box rfl rfl rfl .d rfl
    | exact Do.lit0 rfl rfl
    | exact Do.append1 rfl rfl rfl rfl rfl rfl (by first | omega | (simp; omega))
    | exact Do.appendN1 rfl rfl rfl rfl rfl rfl); exact rfl; exact rfl)
   | refine Chain.nilD (by rw [hms]; kernel_rfl) (hK _ ?_)
   | refine Chain.noN rfl rfl ?_
   | refine AC.seq ?_
   | (refine AC.reg (by decide +kernel) ?_; intro K hK)
   | (refine AC.regG (by decide +kernel) ?_; intro K hK)
   | refine AC.condT rfl ?_
   | refine AC.condF rfl ?_
   | refine AC.block ?_
   | refine AC.exit ?_
   | refine AC.ret ?_
   | refine AC.skip ?_)
  first
   | exact k.out
   | (revert K; exact k.out)
   | (revert K ms; exact k.out)) : p := hs ⟨k⟩
set_option maxRecDepth 100000 in
set_option maxHeartbeats 40000000 in
theorem parse15F (l : List UInt8) (hl : l.length ≤ 20000) : Fn Tryz.prog 28 [.d (.v (.string (tx l)))] (docR (parseGo 0 ⟨0, [], none⟩ true (linesN l))) := by
 have hwd : ∀ x ∈ linesN l, ∀ y ∈ wordsN x, y.length ≤ 20000 := fun x hx y hy => by
  have := (lines_ok l).2 x hx
  have := (words_ok hy).2
  omega
 have hL := lines15F l (by omega)
 obtain ⟨ln1, ln2⟩ := lines_ok l
 obtain ⟨X, hX⟩ : ∃ X, parseGo 0 ⟨0, [], none⟩ true (linesN l) = X := ⟨_, rfl⟩
 rw [hX]
 generalize linesN l = ll at hwd hL ln1 ln2 hX
 refine Fn.of Tryz.func28 rfl (by kernel_rfl) Tryz.ntmps28 Tryz.results28 rfl fun w0 S0 => ?_
 refine wd ?_
 (first | intro K ms hms hK | intro K hK | skip)
 refine Chain.pin 4 4 [.v (.int .i64 0), .n] rfl rfl fun b => ?_
 refine Chain.convO 4 (boxR b 44 [.v (.int .i64 0), .v nil3]) rfl (boxR_stable _ _ _) (fun S w h => boxR_nilV (j := 1) rfl S w h) ?_
 refine Chain.newO 50 62 4 rfl ?_
 refine Chain.newO 51 57 1 rfl ?_
 refine Chain.newO 52 136 3 rfl ?_
 refine Chain.newO 53 31 1 rfl ?_
 refine c1 hL ?_
 refine wd ?_
 refine AC.loop (X := Nat × NS × Bool × Value × Value × Value × Value) (fun x => ⟨[(2, .p 2 0), (4, .d (.v (ptv b 0))), (5, .d (.v (.bool (!x.2.2.1)))), (22, .d (wordsE ll)), (23, .d (.v (.int .i64 (ll.length : Int)))), (24, .d (.v (.int .i64 (x.1 : Int))))], [(2, .box 44 [.d (.v (.int .i64 0)), .d .n]), (4, boxO b 44 [.v (.int .i64 (x.2.1 : NS).inn), .v x.2.2.2.1]), (50, rowO x.2.2.2.1 62 4 (rowsOfD x.2.1 x.2.2.2.2.1 x.2.2.2.2.2.1 x.2.2.2.2.2.2)), (51, rowO x.2.2.2.2.1 57 1 (lastWD x.2.1)), (52, rowO x.2.2.2.2.2.1 136 3 (lastBD x.2.1)), (53, rowO x.2.2.2.2.2.2 31 1 (lastG x.2.1))]⟩)
  (fun x => x.1 ≤ ll.length ∧ x.2.1.wf x.1 ∧ Plc x.2.2.2.1 (x.2.1.ls.length + x.2.1.last.toList.length) ∧ (x.2.1.last = none → x.2.2.2.1 = nil3 ∧ x.2.2.2.2.1 = nil3 ∧ x.2.2.2.2.2.1 = nil3 ∧ x.2.2.2.2.2.2 = nil3) ∧ (x.2.2.1 = true → x.2.1.last = none) ∧ X = parseGo x.1 x.2.1 x.2.2.1 (ll.drop x.1)) (fun x => ll.length - x.1)
  (0, ⟨0, [], none⟩, true, nil3, nil3, nil3, nil3) ⟨Nat.zero_le _, ⟨Nat.zero_le _, fun _ => rfl, fun _ h => nomatch h⟩, .inl ⟨rfl, rfl⟩, fun _ => ⟨rfl, rfl, rfl, rfl⟩, fun _ => rfl, hX.symm⟩ ⟨rfl, rfl, rfl, rfl, rfl, rfl, trivial⟩ ⟨rfl, rfl, rfl, rfl, rfl, rfl, trivial⟩ ?_
 intro ⟨i, s, first, xL, xW, xB, xG⟩ ⟨hi, hwf, hP, hnil, hfst, hgo⟩
 dsimp only at hi hwf hP hnil hfst hgo ⊢
 refine wd ?_
 refine s1 (fun h2 => ?_) (fun h2 => ?_)
 ·have hi' : i < ll.length := by omega
  have hget : ll[i]? = some ll[i] := List.getElem?_eq_getElem hi'
  have hdr : ll.drop i = ll[i] :: ll.drop (i + 1) := List.drop_eq_getElem_cons hi'
  rw [hdr, parseGo] at hgo
  have hwm := hwd _ (List.getElem_mem hi')
  have hlm := ln2 _ (List.getElem_mem hi')
  generalize ll[i] = y at hget hgo hwm hlm
  have hff := words15F y (by omega)
  have hwn := wordsN_len y
  have hwo : ∀ z ∈ wordsN y, z ≠ [] ∧ z.length ≤ 20000 := fun z hz => ⟨(words_ok hz).1, hwm z hz⟩
  cases hwy : wordsN y with
  | nil =>
   rw [hwy] at hgo hff
   have e0 : ([] : List (List UInt8)).length = 0 := rfl
   refine wd ?_
   refine c1 hff ?_
   refine wd ?_
   exact ⟨(i + 1, s, first, xL, xW, xB, xG), ⟨hi', wf_up hwf (Nat.le_succ i), hP, hnil, hfst, hgo⟩, by dsimp only; omega, ⟨rfl, rfl, rfl, rfl, rfl, rfl, trivial⟩, ⟨rfl, rfl, rfl, rfl, rfl, rfl, trivial⟩⟩
  | cons h t =>
   rw [hwy] at hgo hwo hwn hff
   dsimp only at hgo
   have hml : (h :: t).length = t.length + 1 := List.length_cons ..
   have hw' : ∀ x ∈ t, x ≠ [] ∧ x.length ≤ 20000 := fun x hx => hwo x (List.mem_cons_of_mem _ hx)
   obtain ⟨c, hc0⟩ : ∃ c, h[0]? = some c := by
    cases h with
    | nil => exact absurd rfl (hwo [] (by simp)).1
    | cons c h' => exact ⟨c, rfl⟩
   have hget0 : (h :: t)[0]? = some h := rfl
   rw [List.head?_eq_getElem?, hc0] at hgo
   refine wd ?_
   refine c1 hff ?_
   refine wd ?_
   ((try (first | intro K ms hms hK | intro K hK)); (first | apply Chain.go | apply Chain.goD); exact rfl; exact rfl; exact Loc.strAt (c := c) 0 rfl rfl rfl rfl hc0 (by kernel_rfl))
   by_cases hc : c.toNat = 35
   ·rw [if_pos (by rw [show c = 35 from UInt8.toNat_inj.1 hc])] at hgo
    refine wd ?_
    exact ⟨(i + 1, s, first, xL, xW, xB, xG), ⟨hi', wf_up hwf (Nat.le_succ i), hP, hnil, hfst, hgo⟩, by dsimp only; omega, ⟨rfl, rfl, rfl, rfl, rfl, rfl, trivial⟩, ⟨rfl, rfl, rfl, rfl, rfl, rfl, trivial⟩⟩
   rw [if_neg (fun e => hc (by cases e; rfl))] at hgo
   have hcb := UInt8.toNat_lt c
   obtain ⟨inn, ls, last⟩ := s
   cases last with
   | none =>
    obtain rfl : ls = [] := hwf.2.1 rfl
    obtain ⟨rfl, rfl, rfl, rfl⟩ := hnil rfl
    cases first with
    | true =>
     by_cases n1 : h = bNet
     ·obtain rfl := n1
      refine wd ?_
      ((try (first | intro K ms hms hK | intro K hK)); (first | apply Chain.go | apply Chain.goD); exact rfl; exact rfl; exact Loc.strNe (r := false) rfl rfl rfl (neF (m := bNet) rfl))
      by_cases ht1 : t.length = 1
      rotate_left
      ·have eL := lineS_netT (s := ⟨inn, [], none⟩) ht1
       rw [eL] at hgo
       refine wd ?_
       rw [hgo]
       exact ⟨.cn rfl rfl inferInstance rfl ⟨.inl rfl, .inr rfl, trivial⟩, .d rfl (.inl (by simp)), trivial⟩
      obtain ⟨x, rfl⟩ := List.length_eq_one_iff.1 ht1
      have hx := hw' x (by simp)
      have hget1 : [bNet, x][1]? = some x := rfl
      have hd := digits15F x (by omega)
      have eL := lineS_net1 (s := ⟨inn, [], none⟩) (x := x)
      cases hcx : cntN x with
      | none =>
       rw [hcx] at eL
       replace eL : lineS ⟨inn, [], none⟩ bNet [x] true = none := eL
       rw [eL] at hgo
       rw [dgN_none hcx] at hd
       refine wd ?_
       refine c1 hd ?_
       refine wd ?_
       rw [hgo]
       exact ⟨.cn rfl rfl inferInstance rfl ⟨.inl rfl, .inr rfl, trivial⟩, .d rfl (.inl (by simp)), trivial⟩
      | some n =>
       rw [hcx] at eL
       replace eL : lineS ⟨inn, [], none⟩ bNet [x] true = some ⟨n, [], none⟩ := eL
       rw [eL] at hgo
       rw [dgN_some hx.1 hcx] at hd
       refine wd ?_
       refine c1 hd ?_
       refine wd ?_
       refine c1 hd ?_
       refine wd ?_
       exact ⟨(i + 1, ⟨n, [], none⟩, false, nil3, nil3, nil3, nil3), ⟨hi', lineS_wf hwf eL, .inl ⟨rfl, rfl⟩, fun _ => ⟨rfl, rfl, rfl, rfl⟩, fun h => (by cases h), hgo⟩, by dsimp only; omega, ⟨rfl, rfl, rfl, rfl, rfl, rfl, trivial⟩, ⟨rfl, rfl, rfl, rfl, rfl, rfl, trivial⟩⟩
     ·have eL := lineS_first (inn := inn) (t := t) n1
      rw [eL] at hgo
      refine wd ?_
      ((try (first | intro K ms hms hK | intro K hK)); (first | apply Chain.go | apply Chain.goD); exact rfl; exact rfl; exact Loc.strNe (r := true) rfl rfl rfl (neTT (m := bNet) n1))
      refine wd ?_
      rw [hgo]
      exact ⟨.cn rfl rfl inferInstance rfl ⟨.inl rfl, .inr rfl, trivial⟩, .d rfl (.inl (by simp)), trivial⟩
    | false =>
     by_cases n2 : h = bAff
     ·obtain rfl := n2
      refine wd ?_
      ((try (first | intro K ms hms hK | intro K hK)); (first | apply Chain.go | apply Chain.goD); exact rfl; exact rfl; exact Loc.strEq (r := true) rfl rfl rfl (eqT (m := bAff) rfl))
      have eK := lineS_kind (s := ⟨inn, [], none⟩) (h := bAff) (t := t) (first := false) (k := 1) (by decide) (by decide)
      by_cases ht0 : t.length = 0
      rotate_left
      ·rw [if_neg fun h => ht0 (by rw [h.1]; rfl)] at eK
       rw [eK] at hgo
       refine wd ?_
       ((try (first | intro K ms hms hK | intro K hK)); (first | apply Chain.go | apply Chain.goD); exact rfl; exact rfl; exact Loc.strEq (r := false) rfl rfl rfl (neT (m := bRel) (by decide)))
       refine wd ?_
       ((try (first | intro K ms hms hK | intro K hK)); (first | apply Chain.go | apply Chain.goD); exact rfl; exact rfl; exact Loc.strEq (r := false) rfl rfl rfl (neT (m := bMax) (by decide)))
       refine wd ?_
       ((try (first | intro K ms hms hK | intro K hK)); (first | apply Chain.go | apply Chain.goD); exact rfl; exact rfl; exact Loc.strEq (r := false) rfl rfl rfl (neT (m := bRow) (by decide)))
       refine wd ?_
       ((try (first | intro K ms hms hK | intro K hK)); (first | apply Chain.go | apply Chain.goD); exact rfl; exact rfl; exact Loc.strEq (r := false) rfl rfl rfl (neT (m := bOf) (by decide)))
       refine wd ?_
       rw [hgo]
       exact ⟨.cn rfl rfl inferInstance rfl ⟨.inl rfl, .inr rfl, trivial⟩, .d rfl (.inl (by simp)), trivial⟩
      rw [if_pos ⟨List.length_eq_zero_iff.1 ht0, rfl⟩] at eK
      replace eK : lineS ⟨inn, [], none⟩ bAff t false = some ⟨inn, [], some ⟨1, [], [], []⟩⟩ := eK
      rw [eK] at hgo
      refine wd ?_
      (first | intro K ms hms hK | intro K hK | skip)
      refine Chain.nilG 95 rfl ?_
      ((try (first | intro K ms hms hK | intro K hK)); (first | apply Chain.go | apply Chain.goD); exact rfl; exact rfl; exact Loc.litP rfl rfl rfl rfl rfl rfl rfl)
      ((try (first | intro K ms hms hK | intro K hK)); (first | apply Chain.ef2 | apply Chain.efD2); exact rfl; exact rfl; exact Do.appendP 50 rfl rfl rfl rfl rfl (by intro y hy; rw [List.mem_singleton.1 hy]; rfl) (by simp [rowsOfD] <;> omega) (Nat.zero_lt_one); exact rfl; exact rfl)
      (first | intro K ms hms hK | intro K hK | skip)
      refine Chain.pinR 97 97 rfl rfl fun xL' hxL => ?_
      ((try (first | intro K ms hms hK | intro K hK)); (first | apply Chain.go | apply Chain.goD); exact rfl; exact rfl; exact Loc.fieldV rfl rfl)
      ((try (first | intro K ms hms hK | intro K hK)); (first | apply Chain.st | apply Chain.stD); exact rfl; exact rfl; exact Do.storeB (id := 4) rfl rfl rfl rfl rfl rfl rfl rfl; exact rfl; exact rfl)
      (first | intro K ms hms hK | intro K hK | skip)
      refine Chain.giveO 97 50 rfl rfl ?_
      obtain ⟨bL', cL', rfl⟩ : ∃ bL' cL', xL' = slv bL' (([] : List LN).length + 1) cL' := by
       rcases hxL with h | ⟨bL', cL', h⟩
       ·exact absurd h (by simp)
       ·exact ⟨bL', cL', by rw [h]; simp [rowsOfD]⟩
      refine Chain.sub ⟨[(2, .p 2 0), (4, .d (.v (ptv b 0))), (5, .d (.v (.bool true))), (22, .d (wordsE ll)), (23, .d (.v (.int .i64 (ll.length : Int)))), (24, .d (.v (.int .i64 (i : Int))))], [(2, .box 44 [.d (.v (.int .i64 0)), .d .n]), (4, boxO b 44 [.v (.int .i64 (⟨inn, [], some ⟨1, [], [], []⟩⟩ : NS).inn), .v (slv bL' (([] : List LN).length + 1) cL')]), (50, rowO (slv bL' (([] : List LN).length + 1) cL') 62 4 (rowsOfD ⟨inn, [], some ⟨1, [], [], []⟩⟩ nil3 nil3 nil3)), (51, rowO nil3 57 1 (lastWD ⟨inn, [], some ⟨1, [], [], []⟩⟩)), (52, rowO nil3 136 3 (lastBD ⟨inn, [], some ⟨1, [], [], []⟩⟩)), (53, rowO nil3 31 1 (lastG ⟨inn, [], some ⟨1, [], [], []⟩⟩))]⟩ ⟨rfl, rfl, rfl, rfl, rfl, rfl, trivial⟩ ⟨rfl, rfl, rfl, rfl, rfl, rfl, trivial⟩ ?_
      refine wd ?_
      exact ⟨(i + 1, ⟨inn, [], some ⟨1, [], [], []⟩⟩, false, (slv bL' (([] : List LN).length + 1) cL'), nil3, nil3, nil3), ⟨hi', lineS_wf hwf eK, .inr ⟨_, _, rfl⟩, fun h => absurd h (by simp), fun h => (by cases h), hgo⟩, by dsimp only; omega, ⟨rfl, rfl, rfl, rfl, rfl, rfl, trivial⟩, ⟨rfl, rfl, rfl, rfl, rfl, rfl, trivial⟩⟩
     by_cases n3 : h = bRel
     ·obtain rfl := n3
      refine wd ?_
      ((try (first | intro K ms hms hK | intro K hK)); (first | apply Chain.go | apply Chain.goD); exact rfl; exact rfl; exact Loc.strEq (r := false) rfl rfl rfl (neT (m := bAff) (by decide)))
      refine wd ?_
      ((try (first | intro K ms hms hK | intro K hK)); (first | apply Chain.go | apply Chain.goD); exact rfl; exact rfl; exact Loc.strEq (r := true) rfl rfl rfl (eqT (m := bRel) rfl))
      have eK := lineS_kind (s := ⟨inn, [], none⟩) (h := bRel) (t := t) (first := false) (k := 2) (by decide) (by decide)
      by_cases ht0 : t.length = 0
      rotate_left
      ·rw [if_neg fun h => ht0 (by rw [h.1]; rfl)] at eK
       rw [eK] at hgo
       refine wd ?_
       ((try (first | intro K ms hms hK | intro K hK)); (first | apply Chain.go | apply Chain.goD); exact rfl; exact rfl; exact Loc.strEq (r := false) rfl rfl rfl (neT (m := bMax) (by decide)))
       refine wd ?_
       ((try (first | intro K ms hms hK | intro K hK)); (first | apply Chain.go | apply Chain.goD); exact rfl; exact rfl; exact Loc.strEq (r := false) rfl rfl rfl (neT (m := bRow) (by decide)))
       refine wd ?_
       ((try (first | intro K ms hms hK | intro K hK)); (first | apply Chain.go | apply Chain.goD); exact rfl; exact rfl; exact Loc.strEq (r := false) rfl rfl rfl (neT (m := bOf) (by decide)))
       refine wd ?_
       rw [hgo]
       exact ⟨.cn rfl rfl inferInstance rfl ⟨.inl rfl, .inr rfl, trivial⟩, .d rfl (.inl (by simp)), trivial⟩
      rw [if_pos ⟨List.length_eq_zero_iff.1 ht0, rfl⟩] at eK
      replace eK : lineS ⟨inn, [], none⟩ bRel t false = some ⟨inn, [], some ⟨2, [], [], []⟩⟩ := eK
      rw [eK] at hgo
      refine wd ?_
      (first | intro K ms hms hK | intro K hK | skip)
      refine Chain.nilG 111 rfl ?_
      ((try (first | intro K ms hms hK | intro K hK)); (first | apply Chain.go | apply Chain.goD); exact rfl; exact rfl; exact Loc.litP rfl rfl rfl rfl rfl rfl rfl)
      ((try (first | intro K ms hms hK | intro K hK)); (first | apply Chain.ef2 | apply Chain.efD2); exact rfl; exact rfl; exact Do.appendP 50 rfl rfl rfl rfl rfl (by intro y hy; rw [List.mem_singleton.1 hy]; rfl) (by simp [rowsOfD] <;> omega) (Nat.zero_lt_one); exact rfl; exact rfl)
      (first | intro K ms hms hK | intro K hK | skip)
      refine Chain.pinR 113 113 rfl rfl fun xL' hxL => ?_
      ((try (first | intro K ms hms hK | intro K hK)); (first | apply Chain.go | apply Chain.goD); exact rfl; exact rfl; exact Loc.fieldV rfl rfl)
      ((try (first | intro K ms hms hK | intro K hK)); (first | apply Chain.st | apply Chain.stD); exact rfl; exact rfl; exact Do.storeB (id := 4) rfl rfl rfl rfl rfl rfl rfl rfl; exact rfl; exact rfl)
      (first | intro K ms hms hK | intro K hK | skip)
      refine Chain.giveO 113 50 rfl rfl ?_
      obtain ⟨bL', cL', rfl⟩ : ∃ bL' cL', xL' = slv bL' (([] : List LN).length + 1) cL' := by
       rcases hxL with h | ⟨bL', cL', h⟩
       ·exact absurd h (by simp)
       ·exact ⟨bL', cL', by rw [h]; simp [rowsOfD]⟩
      refine Chain.sub ⟨[(2, .p 2 0), (4, .d (.v (ptv b 0))), (5, .d (.v (.bool true))), (22, .d (wordsE ll)), (23, .d (.v (.int .i64 (ll.length : Int)))), (24, .d (.v (.int .i64 (i : Int))))], [(2, .box 44 [.d (.v (.int .i64 0)), .d .n]), (4, boxO b 44 [.v (.int .i64 (⟨inn, [], some ⟨2, [], [], []⟩⟩ : NS).inn), .v (slv bL' (([] : List LN).length + 1) cL')]), (50, rowO (slv bL' (([] : List LN).length + 1) cL') 62 4 (rowsOfD ⟨inn, [], some ⟨2, [], [], []⟩⟩ nil3 nil3 nil3)), (51, rowO nil3 57 1 (lastWD ⟨inn, [], some ⟨2, [], [], []⟩⟩)), (52, rowO nil3 136 3 (lastBD ⟨inn, [], some ⟨2, [], [], []⟩⟩)), (53, rowO nil3 31 1 (lastG ⟨inn, [], some ⟨2, [], [], []⟩⟩))]⟩ ⟨rfl, rfl, rfl, rfl, rfl, rfl, trivial⟩ ⟨rfl, rfl, rfl, rfl, rfl, rfl, trivial⟩ ?_
      refine wd ?_
      exact ⟨(i + 1, ⟨inn, [], some ⟨2, [], [], []⟩⟩, false, (slv bL' (([] : List LN).length + 1) cL'), nil3, nil3, nil3), ⟨hi', lineS_wf hwf eK, .inr ⟨_, _, rfl⟩, fun h => absurd h (by simp), fun h => (by cases h), hgo⟩, by dsimp only; omega, ⟨rfl, rfl, rfl, rfl, rfl, rfl, trivial⟩, ⟨rfl, rfl, rfl, rfl, rfl, rfl, trivial⟩⟩
     by_cases n4 : h = bMax
     ·obtain rfl := n4
      refine wd ?_
      ((try (first | intro K ms hms hK | intro K hK)); (first | apply Chain.go | apply Chain.goD); exact rfl; exact rfl; exact Loc.strEq (r := false) rfl rfl rfl (neT (m := bAff) (by decide)))
      refine wd ?_
      ((try (first | intro K ms hms hK | intro K hK)); (first | apply Chain.go | apply Chain.goD); exact rfl; exact rfl; exact Loc.strEq (r := false) rfl rfl rfl (neT (m := bRel) (by decide)))
      refine wd ?_
      ((try (first | intro K ms hms hK | intro K hK)); (first | apply Chain.go | apply Chain.goD); exact rfl; exact rfl; exact Loc.strEq (r := true) rfl rfl rfl (eqT (m := bMax) rfl))
      have eK := lineS_kind (s := ⟨inn, [], none⟩) (h := bMax) (t := t) (first := false) (k := 3) (by decide) (by decide)
      by_cases ht0 : t.length = 0
      rotate_left
      ·rw [if_neg fun h => ht0 (by rw [h.1]; rfl)] at eK
       rw [eK] at hgo
       refine wd ?_
       ((try (first | intro K ms hms hK | intro K hK)); (first | apply Chain.go | apply Chain.goD); exact rfl; exact rfl; exact Loc.strEq (r := false) rfl rfl rfl (neT (m := bRow) (by decide)))
       refine wd ?_
       ((try (first | intro K ms hms hK | intro K hK)); (first | apply Chain.go | apply Chain.goD); exact rfl; exact rfl; exact Loc.strEq (r := false) rfl rfl rfl (neT (m := bOf) (by decide)))
       refine wd ?_
       rw [hgo]
       exact ⟨.cn rfl rfl inferInstance rfl ⟨.inl rfl, .inr rfl, trivial⟩, .d rfl (.inl (by simp)), trivial⟩
      rw [if_pos ⟨List.length_eq_zero_iff.1 ht0, rfl⟩] at eK
      replace eK : lineS ⟨inn, [], none⟩ bMax t false = some ⟨inn, [], some ⟨3, [], [], []⟩⟩ := eK
      rw [eK] at hgo
      refine wd ?_
      (first | intro K ms hms hK | intro K hK | skip)
      refine Chain.nilG 127 rfl ?_
      ((try (first | intro K ms hms hK | intro K hK)); (first | apply Chain.go | apply Chain.goD); exact rfl; exact rfl; exact Loc.litP rfl rfl rfl rfl rfl rfl rfl)
      ((try (first | intro K ms hms hK | intro K hK)); (first | apply Chain.ef2 | apply Chain.efD2); exact rfl; exact rfl; exact Do.appendP 50 rfl rfl rfl rfl rfl (by intro y hy; rw [List.mem_singleton.1 hy]; rfl) (by simp [rowsOfD] <;> omega) (Nat.zero_lt_one); exact rfl; exact rfl)
      (first | intro K ms hms hK | intro K hK | skip)
      refine Chain.pinR 129 129 rfl rfl fun xL' hxL => ?_
      ((try (first | intro K ms hms hK | intro K hK)); (first | apply Chain.go | apply Chain.goD); exact rfl; exact rfl; exact Loc.fieldV rfl rfl)
      ((try (first | intro K ms hms hK | intro K hK)); (first | apply Chain.st | apply Chain.stD); exact rfl; exact rfl; exact Do.storeB (id := 4) rfl rfl rfl rfl rfl rfl rfl rfl; exact rfl; exact rfl)
      (first | intro K ms hms hK | intro K hK | skip)
      refine Chain.giveO 129 50 rfl rfl ?_
      obtain ⟨bL', cL', rfl⟩ : ∃ bL' cL', xL' = slv bL' (([] : List LN).length + 1) cL' := by
       rcases hxL with h | ⟨bL', cL', h⟩
       ·exact absurd h (by simp)
       ·exact ⟨bL', cL', by rw [h]; simp [rowsOfD]⟩
      refine Chain.sub ⟨[(2, .p 2 0), (4, .d (.v (ptv b 0))), (5, .d (.v (.bool true))), (22, .d (wordsE ll)), (23, .d (.v (.int .i64 (ll.length : Int)))), (24, .d (.v (.int .i64 (i : Int))))], [(2, .box 44 [.d (.v (.int .i64 0)), .d .n]), (4, boxO b 44 [.v (.int .i64 (⟨inn, [], some ⟨3, [], [], []⟩⟩ : NS).inn), .v (slv bL' (([] : List LN).length + 1) cL')]), (50, rowO (slv bL' (([] : List LN).length + 1) cL') 62 4 (rowsOfD ⟨inn, [], some ⟨3, [], [], []⟩⟩ nil3 nil3 nil3)), (51, rowO nil3 57 1 (lastWD ⟨inn, [], some ⟨3, [], [], []⟩⟩)), (52, rowO nil3 136 3 (lastBD ⟨inn, [], some ⟨3, [], [], []⟩⟩)), (53, rowO nil3 31 1 (lastG ⟨inn, [], some ⟨3, [], [], []⟩⟩))]⟩ ⟨rfl, rfl, rfl, rfl, rfl, rfl, trivial⟩ ⟨rfl, rfl, rfl, rfl, rfl, rfl, trivial⟩ ?_
      refine wd ?_
      exact ⟨(i + 1, ⟨inn, [], some ⟨3, [], [], []⟩⟩, false, (slv bL' (([] : List LN).length + 1) cL'), nil3, nil3, nil3), ⟨hi', lineS_wf hwf eK, .inr ⟨_, _, rfl⟩, fun h => absurd h (by simp), fun h => (by cases h), hgo⟩, by dsimp only; omega, ⟨rfl, rfl, rfl, rfl, rfl, rfl, trivial⟩, ⟨rfl, rfl, rfl, rfl, rfl, rfl, trivial⟩⟩
     by_cases n5 : h = bRow
     ·obtain rfl := n5
      have eL : lineS ⟨inn, [], none⟩ bRow t false = none := by rw [lineS_row]
      rw [eL] at hgo
      refine wd ?_
      ((try (first | intro K ms hms hK | intro K hK)); (first | apply Chain.go | apply Chain.goD); exact rfl; exact rfl; exact Loc.strEq (r := false) rfl rfl rfl (neT (m := bAff) (by decide)))
      refine wd ?_
      ((try (first | intro K ms hms hK | intro K hK)); (first | apply Chain.go | apply Chain.goD); exact rfl; exact rfl; exact Loc.strEq (r := false) rfl rfl rfl (neT (m := bRel) (by decide)))
      refine wd ?_
      ((try (first | intro K ms hms hK | intro K hK)); (first | apply Chain.go | apply Chain.goD); exact rfl; exact rfl; exact Loc.strEq (r := false) rfl rfl rfl (neT (m := bMax) (by decide)))
      refine wd ?_
      ((try (first | intro K ms hms hK | intro K hK)); (first | apply Chain.go | apply Chain.goD); exact rfl; exact rfl; exact Loc.strEq (r := true) rfl rfl rfl (eqT (m := bRow) rfl))
      refine wd ?_
      ((try (first | intro K ms hms hK | intro K hK)); (first | apply Chain.go | apply Chain.goD); exact rfl; exact rfl; exact Loc.strEq (r := false) rfl rfl rfl (neT (m := bOf) (by decide)))
      refine wd ?_
      rw [hgo]
      exact ⟨.cn rfl rfl inferInstance rfl ⟨.inl rfl, .inr rfl, trivial⟩, .d rfl (.inl (by simp)), trivial⟩
     by_cases n6 : h = bOf
     ·obtain rfl := n6
      have eL : lineS ⟨inn, [], none⟩ bOf t false = none := by rw [lineS_of]
      rw [eL] at hgo
      refine wd ?_
      ((try (first | intro K ms hms hK | intro K hK)); (first | apply Chain.go | apply Chain.goD); exact rfl; exact rfl; exact Loc.strEq (r := false) rfl rfl rfl (neT (m := bAff) (by decide)))
      refine wd ?_
      ((try (first | intro K ms hms hK | intro K hK)); (first | apply Chain.go | apply Chain.goD); exact rfl; exact rfl; exact Loc.strEq (r := false) rfl rfl rfl (neT (m := bRel) (by decide)))
      refine wd ?_
      ((try (first | intro K ms hms hK | intro K hK)); (first | apply Chain.go | apply Chain.goD); exact rfl; exact rfl; exact Loc.strEq (r := false) rfl rfl rfl (neT (m := bMax) (by decide)))
      refine wd ?_
      ((try (first | intro K ms hms hK | intro K hK)); (first | apply Chain.go | apply Chain.goD); exact rfl; exact rfl; exact Loc.strEq (r := false) rfl rfl rfl (neT (m := bRow) (by decide)))
      refine wd ?_
      ((try (first | intro K ms hms hK | intro K hK)); (first | apply Chain.go | apply Chain.goD); exact rfl; exact rfl; exact Loc.strEq (r := true) rfl rfl rfl (eqT (m := bOf) rfl))
      refine wd ?_
      rw [hgo]
      exact ⟨.cn rfl rfl inferInstance rfl ⟨.inl rfl, .inr rfl, trivial⟩, .d rfl (.inl (by simp)), trivial⟩
     have eL := lineS_oth (s := ⟨inn, [], none⟩) (t := t) n2 n3 n4 n5 n6
     rw [eL] at hgo
     refine wd ?_
     ((try (first | intro K ms hms hK | intro K hK)); (first | apply Chain.go | apply Chain.goD); exact rfl; exact rfl; exact Loc.strEq (r := false) rfl rfl rfl (neT (m := bAff) n2))
     refine wd ?_
     ((try (first | intro K ms hms hK | intro K hK)); (first | apply Chain.go | apply Chain.goD); exact rfl; exact rfl; exact Loc.strEq (r := false) rfl rfl rfl (neT (m := bRel) n3))
     refine wd ?_
     ((try (first | intro K ms hms hK | intro K hK)); (first | apply Chain.go | apply Chain.goD); exact rfl; exact rfl; exact Loc.strEq (r := false) rfl rfl rfl (neT (m := bMax) n4))
     refine wd ?_
     ((try (first | intro K ms hms hK | intro K hK)); (first | apply Chain.go | apply Chain.goD); exact rfl; exact rfl; exact Loc.strEq (r := false) rfl rfl rfl (neT (m := bRow) n5))
     refine wd ?_
     ((try (first | intro K ms hms hK | intro K hK)); (first | apply Chain.go | apply Chain.goD); exact rfl; exact rfl; exact Loc.strEq (r := false) rfl rfl rfl (neT (m := bOf) n6))
     refine wd ?_
     rw [hgo]
     exact ⟨.cn rfl rfl inferInstance rfl ⟨.inl rfl, .inr rfl, trivial⟩, .d rfl (.inl (by simp)), trivial⟩
   | some l =>
    obtain rfl : first = false := by
     cases first with
     | false => rfl
     | true => exact absurd (hfst rfl) (by simp)
    obtain ⟨bL, cL, rfl⟩ : ∃ bL cL, xL = slv bL (ls.length + 1) cL := by
     rcases hP with ⟨h, _⟩ | h
     ·simp at h
     ·exact h
    obtain ⟨g1, g2, g3⟩ := hwf.2.2 l rfl
    have g0 : ls.length ≤ i := hwf.1
    have hrow := rowsD_get ls [.v (.int .i64 l.kind), .v xW, .v xB, .v xG]
    refine wd ?_
    ((try (first | intro K ms hms hK | intro K hK)); (first | apply Chain.go | apply Chain.goD); exact rfl; exact rfl; exact Loc.idxV ls.length rfl rfl rfl (by omega) (by omega))
    refine wd ?_
    ((try (first | intro K ms hms hK | intro K hK)); (first | apply Chain.go | apply Chain.goD); exact rfl; exact rfl; exact Loc.loadO1 (id := 50) ls.length 0 rfl rfl rfl rfl hrow rfl)
    by_cases n2 : h = bAff
    ·obtain rfl := n2
     refine wd ?_
     ((try (first | intro K ms hms hK | intro K hK)); (first | apply Chain.go | apply Chain.goD); exact rfl; exact rfl; exact Loc.strEq (r := true) rfl rfl rfl (eqT (m := bAff) rfl))
     have eK := lineS_kind (s := ⟨inn, ls, some l⟩) (h := bAff) (t := t) (first := false) (k := 1) (by decide) (by decide)
     by_cases ht0 : t.length = 0
     rotate_left
     ·rw [if_neg fun h => ht0 (by rw [h.1]; rfl)] at eK
      rw [eK] at hgo
      refine wd ?_
      ((try (first | intro K ms hms hK | intro K hK)); (first | apply Chain.go | apply Chain.goD); exact rfl; exact rfl; exact Loc.strEq (r := false) rfl rfl rfl (neT (m := bRel) (by decide)))
      refine wd ?_
      ((try (first | intro K ms hms hK | intro K hK)); (first | apply Chain.go | apply Chain.goD); exact rfl; exact rfl; exact Loc.strEq (r := false) rfl rfl rfl (neT (m := bMax) (by decide)))
      refine wd ?_
      ((try (first | intro K ms hms hK | intro K hK)); (first | apply Chain.go | apply Chain.goD); exact rfl; exact rfl; exact Loc.strEq (r := false) rfl rfl rfl (neT (m := bRow) (by decide)))
      refine wd ?_
      ((try (first | intro K ms hms hK | intro K hK)); (first | apply Chain.go | apply Chain.goD); exact rfl; exact rfl; exact Loc.strEq (r := false) rfl rfl rfl (neT (m := bOf) (by decide)))
      refine wd ?_
      rw [hgo]
      exact ⟨.cn rfl rfl inferInstance rfl ⟨.inl rfl, .inr rfl, trivial⟩, .d rfl (.inl (by simp)), trivial⟩
     rw [if_pos ⟨List.length_eq_zero_iff.1 ht0, rfl⟩] at eK
     replace eK : lineS ⟨inn, ls, some l⟩ bAff t false = some ⟨inn, ls ++ [l], some ⟨1, [], [], []⟩⟩ := eK
     rw [eK] at hgo
     refine wd ?_
     (first | intro K ms hms hK | intro K hK | skip)
     refine Chain.nilG 95 rfl ?_
     ((try (first | intro K ms hms hK | intro K hK)); (first | apply Chain.go | apply Chain.goD); exact rfl; exact rfl; exact Loc.litP rfl rfl rfl rfl rfl rfl rfl)
     ((try (first | intro K ms hms hK | intro K hK)); (first | apply Chain.ef2 | apply Chain.efD2); exact rfl; exact rfl; exact Do.appendP 50 rfl rfl rfl rfl rfl (by intro y hy; rw [List.mem_singleton.1 hy]; rfl) (by simp [rowsOfD] <;> omega) (Nat.zero_lt_one); exact rfl; exact rfl)
     (first | intro K ms hms hK | intro K hK | skip)
     refine Chain.pinR 97 97 rfl rfl fun xL' hxL => ?_
     ((try (first | intro K ms hms hK | intro K hK)); (first | apply Chain.go | apply Chain.goD); exact rfl; exact rfl; exact Loc.fieldV rfl rfl)
     ((try (first | intro K ms hms hK | intro K hK)); (first | apply Chain.st | apply Chain.stD); exact rfl; exact rfl; exact Do.storeB (id := 4) rfl rfl rfl rfl rfl rfl rfl rfl; exact rfl; exact rfl)
     (first | intro K ms hms hK | intro K hK | skip)
     refine Chain.frzIn 97 51 (rowR xL' _ 4 (ls.map enLD ++ [[D.v (.int .i64 l.kind), D.l (lastWD ⟨inn, ls, some l⟩), D.v xB, D.v xG]] ++ [[D.v (.int .i64 1), D.v nil3, D.v nil3, D.v nil3]])) (by decide) rfl rfl (rowR_stable _ _ _ _) (fun S w h0 hb h => rowR_putMD (c := [D.v (.int .i64 l.kind), D.v xW, D.v xB, D.v xG]) (j := 1) rfl S w h0 hb h) ?_
     refine Chain.frzIn 97 52 (rowR xL' _ 4 (ls.map enLD ++ [[D.v (.int .i64 l.kind), D.l (lastWD ⟨inn, ls, some l⟩), D.l (lastBD ⟨inn, ls, some l⟩), D.v xG]] ++ [[D.v (.int .i64 1), D.v nil3, D.v nil3, D.v nil3]])) (by decide) rfl rfl (rowR_stable _ _ _ _) (fun S w h0 hb h => rowR_putMD (c := [D.v (.int .i64 l.kind), D.l (lastWD ⟨inn, ls, some l⟩), D.v xB, D.v xG]) (j := 2) rfl S w h0 hb h) ?_
     refine Chain.frzIn 97 53 (rowR xL' _ 4 (rowsOfD ⟨inn, ls ++ [l], some ⟨1, [], [], []⟩⟩ nil3 nil3 nil3)) (by decide) rfl rfl (rowR_stable _ _ _ _) (fun S w h0 hb h => by rw [← rowsD_end]; exact rowR_putMD (c := [D.v (.int .i64 l.kind), D.l (lastWD ⟨inn, ls, some l⟩), D.l (lastBD ⟨inn, ls, some l⟩), D.v xG]) (j := 3) rfl S w h0 hb h) ?_
     refine Chain.giveO 97 50 rfl rfl ?_
     refine Chain.sub ⟨[(2, .p 2 0), (4, .d (.v (ptv b 0))), (5, .d (.v (.bool true))), (22, .d (wordsE ll)), (23, .d (.v (.int .i64 (ll.length : Int)))), (24, .d (.v (.int .i64 (i : Int))))], [(2, .box 44 [.d (.v (.int .i64 0)), .d .n]), (4, boxO b 44 [.v (.int .i64 inn), .v xL']), (50, rowO xL' 62 4 (rowsOfD ⟨inn, ls ++ [l], some ⟨1, [], [], []⟩⟩ nil3 nil3 nil3)), (51, .dead), (52, .dead), (53, .dead)]⟩ ⟨rfl, rfl, rfl, rfl, rfl, rfl, trivial⟩ ⟨rfl, rfl, rfl, rfl, rfl, rfl, trivial⟩ ?_
     refine Chain.newO 101 57 1 rfl ?_
     refine Chain.giveO 101 51 rfl rfl ?_
     refine Chain.newO 102 136 3 rfl ?_
     refine Chain.giveO 102 52 rfl rfl ?_
     refine Chain.newO 103 31 1 rfl ?_
     refine Chain.giveO 103 53 rfl rfl ?_
     obtain ⟨bL', cL', rfl⟩ : ∃ bL' cL', xL' = slv bL' ((ls ++ [l]).length + 1) cL' := by
      rcases hxL with h | ⟨bL', cL', h⟩
      ·exact absurd h (by simp)
      ·exact ⟨bL', cL', by rw [h]; simp [rowsOfD]⟩
     refine Chain.sub ⟨[(2, .p 2 0), (4, .d (.v (ptv b 0))), (5, .d (.v (.bool true))), (22, .d (wordsE ll)), (23, .d (.v (.int .i64 (ll.length : Int)))), (24, .d (.v (.int .i64 (i : Int))))], [(2, .box 44 [.d (.v (.int .i64 0)), .d .n]), (4, boxO b 44 [.v (.int .i64 (⟨inn, ls ++ [l], some ⟨1, [], [], []⟩⟩ : NS).inn), .v (slv bL' ((ls ++ [l]).length + 1) cL')]), (50, rowO (slv bL' ((ls ++ [l]).length + 1) cL') 62 4 (rowsOfD ⟨inn, ls ++ [l], some ⟨1, [], [], []⟩⟩ nil3 nil3 nil3)), (51, rowO nil3 57 1 (lastWD ⟨inn, ls ++ [l], some ⟨1, [], [], []⟩⟩)), (52, rowO nil3 136 3 (lastBD ⟨inn, ls ++ [l], some ⟨1, [], [], []⟩⟩)), (53, rowO nil3 31 1 (lastG ⟨inn, ls ++ [l], some ⟨1, [], [], []⟩⟩))]⟩ ⟨rfl, rfl, rfl, rfl, rfl, rfl, trivial⟩ ⟨rfl, rfl, rfl, rfl, rfl, rfl, trivial⟩ ?_
     refine wd ?_
     exact ⟨(i + 1, ⟨inn, ls ++ [l], some ⟨1, [], [], []⟩⟩, false, (slv bL' ((ls ++ [l]).length + 1) cL'), nil3, nil3, nil3), ⟨hi', lineS_wf hwf eK, .inr ⟨_, _, rfl⟩, fun h => absurd h (by simp), fun h => (by cases h), hgo⟩, by dsimp only; omega, ⟨rfl, rfl, rfl, rfl, rfl, rfl, trivial⟩, ⟨rfl, rfl, rfl, rfl, rfl, rfl, trivial⟩⟩
    by_cases n3 : h = bRel
    ·obtain rfl := n3
     refine wd ?_
     ((try (first | intro K ms hms hK | intro K hK)); (first | apply Chain.go | apply Chain.goD); exact rfl; exact rfl; exact Loc.strEq (r := false) rfl rfl rfl (neT (m := bAff) (by decide)))
     refine wd ?_
     ((try (first | intro K ms hms hK | intro K hK)); (first | apply Chain.go | apply Chain.goD); exact rfl; exact rfl; exact Loc.strEq (r := true) rfl rfl rfl (eqT (m := bRel) rfl))
     have eK := lineS_kind (s := ⟨inn, ls, some l⟩) (h := bRel) (t := t) (first := false) (k := 2) (by decide) (by decide)
     by_cases ht0 : t.length = 0
     rotate_left
     ·rw [if_neg fun h => ht0 (by rw [h.1]; rfl)] at eK
      rw [eK] at hgo
      refine wd ?_
      ((try (first | intro K ms hms hK | intro K hK)); (first | apply Chain.go | apply Chain.goD); exact rfl; exact rfl; exact Loc.strEq (r := false) rfl rfl rfl (neT (m := bMax) (by decide)))
      refine wd ?_
      ((try (first | intro K ms hms hK | intro K hK)); (first | apply Chain.go | apply Chain.goD); exact rfl; exact rfl; exact Loc.strEq (r := false) rfl rfl rfl (neT (m := bRow) (by decide)))
      refine wd ?_
      ((try (first | intro K ms hms hK | intro K hK)); (first | apply Chain.go | apply Chain.goD); exact rfl; exact rfl; exact Loc.strEq (r := false) rfl rfl rfl (neT (m := bOf) (by decide)))
      refine wd ?_
      rw [hgo]
      exact ⟨.cn rfl rfl inferInstance rfl ⟨.inl rfl, .inr rfl, trivial⟩, .d rfl (.inl (by simp)), trivial⟩
     rw [if_pos ⟨List.length_eq_zero_iff.1 ht0, rfl⟩] at eK
     replace eK : lineS ⟨inn, ls, some l⟩ bRel t false = some ⟨inn, ls ++ [l], some ⟨2, [], [], []⟩⟩ := eK
     rw [eK] at hgo
     refine wd ?_
     (first | intro K ms hms hK | intro K hK | skip)
     refine Chain.nilG 111 rfl ?_
     ((try (first | intro K ms hms hK | intro K hK)); (first | apply Chain.go | apply Chain.goD); exact rfl; exact rfl; exact Loc.litP rfl rfl rfl rfl rfl rfl rfl)
     ((try (first | intro K ms hms hK | intro K hK)); (first | apply Chain.ef2 | apply Chain.efD2); exact rfl; exact rfl; exact Do.appendP 50 rfl rfl rfl rfl rfl (by intro y hy; rw [List.mem_singleton.1 hy]; rfl) (by simp [rowsOfD] <;> omega) (Nat.zero_lt_one); exact rfl; exact rfl)
     (first | intro K ms hms hK | intro K hK | skip)
     refine Chain.pinR 113 113 rfl rfl fun xL' hxL => ?_
     ((try (first | intro K ms hms hK | intro K hK)); (first | apply Chain.go | apply Chain.goD); exact rfl; exact rfl; exact Loc.fieldV rfl rfl)
     ((try (first | intro K ms hms hK | intro K hK)); (first | apply Chain.st | apply Chain.stD); exact rfl; exact rfl; exact Do.storeB (id := 4) rfl rfl rfl rfl rfl rfl rfl rfl; exact rfl; exact rfl)
     (first | intro K ms hms hK | intro K hK | skip)
     refine Chain.frzIn 113 51 (rowR xL' _ 4 (ls.map enLD ++ [[D.v (.int .i64 l.kind), D.l (lastWD ⟨inn, ls, some l⟩), D.v xB, D.v xG]] ++ [[D.v (.int .i64 2), D.v nil3, D.v nil3, D.v nil3]])) (by decide) rfl rfl (rowR_stable _ _ _ _) (fun S w h0 hb h => rowR_putMD (c := [D.v (.int .i64 l.kind), D.v xW, D.v xB, D.v xG]) (j := 1) rfl S w h0 hb h) ?_
     refine Chain.frzIn 113 52 (rowR xL' _ 4 (ls.map enLD ++ [[D.v (.int .i64 l.kind), D.l (lastWD ⟨inn, ls, some l⟩), D.l (lastBD ⟨inn, ls, some l⟩), D.v xG]] ++ [[D.v (.int .i64 2), D.v nil3, D.v nil3, D.v nil3]])) (by decide) rfl rfl (rowR_stable _ _ _ _) (fun S w h0 hb h => rowR_putMD (c := [D.v (.int .i64 l.kind), D.l (lastWD ⟨inn, ls, some l⟩), D.v xB, D.v xG]) (j := 2) rfl S w h0 hb h) ?_
     refine Chain.frzIn 113 53 (rowR xL' _ 4 (rowsOfD ⟨inn, ls ++ [l], some ⟨2, [], [], []⟩⟩ nil3 nil3 nil3)) (by decide) rfl rfl (rowR_stable _ _ _ _) (fun S w h0 hb h => by rw [← rowsD_end]; exact rowR_putMD (c := [D.v (.int .i64 l.kind), D.l (lastWD ⟨inn, ls, some l⟩), D.l (lastBD ⟨inn, ls, some l⟩), D.v xG]) (j := 3) rfl S w h0 hb h) ?_
     refine Chain.giveO 113 50 rfl rfl ?_
     refine Chain.sub ⟨[(2, .p 2 0), (4, .d (.v (ptv b 0))), (5, .d (.v (.bool true))), (22, .d (wordsE ll)), (23, .d (.v (.int .i64 (ll.length : Int)))), (24, .d (.v (.int .i64 (i : Int))))], [(2, .box 44 [.d (.v (.int .i64 0)), .d .n]), (4, boxO b 44 [.v (.int .i64 inn), .v xL']), (50, rowO xL' 62 4 (rowsOfD ⟨inn, ls ++ [l], some ⟨2, [], [], []⟩⟩ nil3 nil3 nil3)), (51, .dead), (52, .dead), (53, .dead)]⟩ ⟨rfl, rfl, rfl, rfl, rfl, rfl, trivial⟩ ⟨rfl, rfl, rfl, rfl, rfl, rfl, trivial⟩ ?_
     refine Chain.newO 101 57 1 rfl ?_
     refine Chain.giveO 101 51 rfl rfl ?_
     refine Chain.newO 102 136 3 rfl ?_
     refine Chain.giveO 102 52 rfl rfl ?_
     refine Chain.newO 103 31 1 rfl ?_
     refine Chain.giveO 103 53 rfl rfl ?_
     obtain ⟨bL', cL', rfl⟩ : ∃ bL' cL', xL' = slv bL' ((ls ++ [l]).length + 1) cL' := by
      rcases hxL with h | ⟨bL', cL', h⟩
      ·exact absurd h (by simp)
      ·exact ⟨bL', cL', by rw [h]; simp [rowsOfD]⟩
     refine Chain.sub ⟨[(2, .p 2 0), (4, .d (.v (ptv b 0))), (5, .d (.v (.bool true))), (22, .d (wordsE ll)), (23, .d (.v (.int .i64 (ll.length : Int)))), (24, .d (.v (.int .i64 (i : Int))))], [(2, .box 44 [.d (.v (.int .i64 0)), .d .n]), (4, boxO b 44 [.v (.int .i64 (⟨inn, ls ++ [l], some ⟨2, [], [], []⟩⟩ : NS).inn), .v (slv bL' ((ls ++ [l]).length + 1) cL')]), (50, rowO (slv bL' ((ls ++ [l]).length + 1) cL') 62 4 (rowsOfD ⟨inn, ls ++ [l], some ⟨2, [], [], []⟩⟩ nil3 nil3 nil3)), (51, rowO nil3 57 1 (lastWD ⟨inn, ls ++ [l], some ⟨2, [], [], []⟩⟩)), (52, rowO nil3 136 3 (lastBD ⟨inn, ls ++ [l], some ⟨2, [], [], []⟩⟩)), (53, rowO nil3 31 1 (lastG ⟨inn, ls ++ [l], some ⟨2, [], [], []⟩⟩))]⟩ ⟨rfl, rfl, rfl, rfl, rfl, rfl, trivial⟩ ⟨rfl, rfl, rfl, rfl, rfl, rfl, trivial⟩ ?_
     refine wd ?_
     exact ⟨(i + 1, ⟨inn, ls ++ [l], some ⟨2, [], [], []⟩⟩, false, (slv bL' ((ls ++ [l]).length + 1) cL'), nil3, nil3, nil3), ⟨hi', lineS_wf hwf eK, .inr ⟨_, _, rfl⟩, fun h => absurd h (by simp), fun h => (by cases h), hgo⟩, by dsimp only; omega, ⟨rfl, rfl, rfl, rfl, rfl, rfl, trivial⟩, ⟨rfl, rfl, rfl, rfl, rfl, rfl, trivial⟩⟩
    by_cases n4 : h = bMax
    ·obtain rfl := n4
     refine wd ?_
     ((try (first | intro K ms hms hK | intro K hK)); (first | apply Chain.go | apply Chain.goD); exact rfl; exact rfl; exact Loc.strEq (r := false) rfl rfl rfl (neT (m := bAff) (by decide)))
     refine wd ?_
     ((try (first | intro K ms hms hK | intro K hK)); (first | apply Chain.go | apply Chain.goD); exact rfl; exact rfl; exact Loc.strEq (r := false) rfl rfl rfl (neT (m := bRel) (by decide)))
     refine wd ?_
     ((try (first | intro K ms hms hK | intro K hK)); (first | apply Chain.go | apply Chain.goD); exact rfl; exact rfl; exact Loc.strEq (r := true) rfl rfl rfl (eqT (m := bMax) rfl))
     have eK := lineS_kind (s := ⟨inn, ls, some l⟩) (h := bMax) (t := t) (first := false) (k := 3) (by decide) (by decide)
     by_cases ht0 : t.length = 0
     rotate_left
     ·rw [if_neg fun h => ht0 (by rw [h.1]; rfl)] at eK
      rw [eK] at hgo
      refine wd ?_
      ((try (first | intro K ms hms hK | intro K hK)); (first | apply Chain.go | apply Chain.goD); exact rfl; exact rfl; exact Loc.strEq (r := false) rfl rfl rfl (neT (m := bRow) (by decide)))
      refine wd ?_
      ((try (first | intro K ms hms hK | intro K hK)); (first | apply Chain.go | apply Chain.goD); exact rfl; exact rfl; exact Loc.strEq (r := false) rfl rfl rfl (neT (m := bOf) (by decide)))
      refine wd ?_
      rw [hgo]
      exact ⟨.cn rfl rfl inferInstance rfl ⟨.inl rfl, .inr rfl, trivial⟩, .d rfl (.inl (by simp)), trivial⟩
     rw [if_pos ⟨List.length_eq_zero_iff.1 ht0, rfl⟩] at eK
     replace eK : lineS ⟨inn, ls, some l⟩ bMax t false = some ⟨inn, ls ++ [l], some ⟨3, [], [], []⟩⟩ := eK
     rw [eK] at hgo
     refine wd ?_
     (first | intro K ms hms hK | intro K hK | skip)
     refine Chain.nilG 127 rfl ?_
     ((try (first | intro K ms hms hK | intro K hK)); (first | apply Chain.go | apply Chain.goD); exact rfl; exact rfl; exact Loc.litP rfl rfl rfl rfl rfl rfl rfl)
     ((try (first | intro K ms hms hK | intro K hK)); (first | apply Chain.ef2 | apply Chain.efD2); exact rfl; exact rfl; exact Do.appendP 50 rfl rfl rfl rfl rfl (by intro y hy; rw [List.mem_singleton.1 hy]; rfl) (by simp [rowsOfD] <;> omega) (Nat.zero_lt_one); exact rfl; exact rfl)
     (first | intro K ms hms hK | intro K hK | skip)
     refine Chain.pinR 129 129 rfl rfl fun xL' hxL => ?_
     ((try (first | intro K ms hms hK | intro K hK)); (first | apply Chain.go | apply Chain.goD); exact rfl; exact rfl; exact Loc.fieldV rfl rfl)
     ((try (first | intro K ms hms hK | intro K hK)); (first | apply Chain.st | apply Chain.stD); exact rfl; exact rfl; exact Do.storeB (id := 4) rfl rfl rfl rfl rfl rfl rfl rfl; exact rfl; exact rfl)
     (first | intro K ms hms hK | intro K hK | skip)
     refine Chain.frzIn 129 51 (rowR xL' _ 4 (ls.map enLD ++ [[D.v (.int .i64 l.kind), D.l (lastWD ⟨inn, ls, some l⟩), D.v xB, D.v xG]] ++ [[D.v (.int .i64 3), D.v nil3, D.v nil3, D.v nil3]])) (by decide) rfl rfl (rowR_stable _ _ _ _) (fun S w h0 hb h => rowR_putMD (c := [D.v (.int .i64 l.kind), D.v xW, D.v xB, D.v xG]) (j := 1) rfl S w h0 hb h) ?_
     refine Chain.frzIn 129 52 (rowR xL' _ 4 (ls.map enLD ++ [[D.v (.int .i64 l.kind), D.l (lastWD ⟨inn, ls, some l⟩), D.l (lastBD ⟨inn, ls, some l⟩), D.v xG]] ++ [[D.v (.int .i64 3), D.v nil3, D.v nil3, D.v nil3]])) (by decide) rfl rfl (rowR_stable _ _ _ _) (fun S w h0 hb h => rowR_putMD (c := [D.v (.int .i64 l.kind), D.l (lastWD ⟨inn, ls, some l⟩), D.v xB, D.v xG]) (j := 2) rfl S w h0 hb h) ?_
     refine Chain.frzIn 129 53 (rowR xL' _ 4 (rowsOfD ⟨inn, ls ++ [l], some ⟨3, [], [], []⟩⟩ nil3 nil3 nil3)) (by decide) rfl rfl (rowR_stable _ _ _ _) (fun S w h0 hb h => by rw [← rowsD_end]; exact rowR_putMD (c := [D.v (.int .i64 l.kind), D.l (lastWD ⟨inn, ls, some l⟩), D.l (lastBD ⟨inn, ls, some l⟩), D.v xG]) (j := 3) rfl S w h0 hb h) ?_
     refine Chain.giveO 129 50 rfl rfl ?_
     refine Chain.sub ⟨[(2, .p 2 0), (4, .d (.v (ptv b 0))), (5, .d (.v (.bool true))), (22, .d (wordsE ll)), (23, .d (.v (.int .i64 (ll.length : Int)))), (24, .d (.v (.int .i64 (i : Int))))], [(2, .box 44 [.d (.v (.int .i64 0)), .d .n]), (4, boxO b 44 [.v (.int .i64 inn), .v xL']), (50, rowO xL' 62 4 (rowsOfD ⟨inn, ls ++ [l], some ⟨3, [], [], []⟩⟩ nil3 nil3 nil3)), (51, .dead), (52, .dead), (53, .dead)]⟩ ⟨rfl, rfl, rfl, rfl, rfl, rfl, trivial⟩ ⟨rfl, rfl, rfl, rfl, rfl, rfl, trivial⟩ ?_
     refine Chain.newO 101 57 1 rfl ?_
     refine Chain.giveO 101 51 rfl rfl ?_
     refine Chain.newO 102 136 3 rfl ?_
     refine Chain.giveO 102 52 rfl rfl ?_
     refine Chain.newO 103 31 1 rfl ?_
     refine Chain.giveO 103 53 rfl rfl ?_
     obtain ⟨bL', cL', rfl⟩ : ∃ bL' cL', xL' = slv bL' ((ls ++ [l]).length + 1) cL' := by
      rcases hxL with h | ⟨bL', cL', h⟩
      ·exact absurd h (by simp)
      ·exact ⟨bL', cL', by rw [h]; simp [rowsOfD]⟩
     refine Chain.sub ⟨[(2, .p 2 0), (4, .d (.v (ptv b 0))), (5, .d (.v (.bool true))), (22, .d (wordsE ll)), (23, .d (.v (.int .i64 (ll.length : Int)))), (24, .d (.v (.int .i64 (i : Int))))], [(2, .box 44 [.d (.v (.int .i64 0)), .d .n]), (4, boxO b 44 [.v (.int .i64 (⟨inn, ls ++ [l], some ⟨3, [], [], []⟩⟩ : NS).inn), .v (slv bL' ((ls ++ [l]).length + 1) cL')]), (50, rowO (slv bL' ((ls ++ [l]).length + 1) cL') 62 4 (rowsOfD ⟨inn, ls ++ [l], some ⟨3, [], [], []⟩⟩ nil3 nil3 nil3)), (51, rowO nil3 57 1 (lastWD ⟨inn, ls ++ [l], some ⟨3, [], [], []⟩⟩)), (52, rowO nil3 136 3 (lastBD ⟨inn, ls ++ [l], some ⟨3, [], [], []⟩⟩)), (53, rowO nil3 31 1 (lastG ⟨inn, ls ++ [l], some ⟨3, [], [], []⟩⟩))]⟩ ⟨rfl, rfl, rfl, rfl, rfl, rfl, trivial⟩ ⟨rfl, rfl, rfl, rfl, rfl, rfl, trivial⟩ ?_
     refine wd ?_
     exact ⟨(i + 1, ⟨inn, ls ++ [l], some ⟨3, [], [], []⟩⟩, false, (slv bL' ((ls ++ [l]).length + 1) cL'), nil3, nil3, nil3), ⟨hi', lineS_wf hwf eK, .inr ⟨_, _, rfl⟩, fun h => absurd h (by simp), fun h => (by cases h), hgo⟩, by dsimp only; omega, ⟨rfl, rfl, rfl, rfl, rfl, rfl, trivial⟩, ⟨rfl, rfl, rfl, rfl, rfl, rfl, trivial⟩⟩
    by_cases n5 : h = bRow
    ·obtain rfl := n5
     have eL := lineS_row (s := ⟨inn, ls, some l⟩) (t := t) (first := false)
     dsimp only at eL
     refine wd ?_
     ((try (first | intro K ms hms hK | intro K hK)); (first | apply Chain.go | apply Chain.goD); exact rfl; exact rfl; exact Loc.strEq (r := false) rfl rfl rfl (neT (m := bAff) (by decide)))
     refine wd ?_
     ((try (first | intro K ms hms hK | intro K hK)); (first | apply Chain.go | apply Chain.goD); exact rfl; exact rfl; exact Loc.strEq (r := false) rfl rfl rfl (neT (m := bRel) (by decide)))
     refine wd ?_
     ((try (first | intro K ms hms hK | intro K hK)); (first | apply Chain.go | apply Chain.goD); exact rfl; exact rfl; exact Loc.strEq (r := false) rfl rfl rfl (neT (m := bMax) (by decide)))
     refine wd ?_
     ((try (first | intro K ms hms hK | intro K hK)); (first | apply Chain.go | apply Chain.goD); exact rfl; exact rfl; exact Loc.strEq (r := true) rfl rfl rfl (eqT (m := bRow) rfl))
     by_cases hk1 : l.kind = 1
     rotate_left
     ·rw [if_neg hk1] at eL
      rw [eL] at hgo
      refine wd ?_
      ((try (first | intro K ms hms hK | intro K hK)); (first | apply Chain.go | apply Chain.goD); exact rfl; exact rfl; exact Loc.strEq (r := false) rfl rfl rfl (neT (m := bOf) (by decide)))
      refine wd ?_
      rw [hgo]
      exact ⟨.cn rfl rfl inferInstance rfl ⟨.inl rfl, .inr rfl, trivial⟩, .d rfl (.inl (by simp)), trivial⟩
     rw [if_pos hk1] at eL
     by_cases ht0 : t.length = 0
     ·rw [List.length_eq_zero_iff.1 ht0, show ratsW [] = some [] from rfl] at eL
      replace eL : lineS ⟨inn, ls, some l⟩ bRow [] false = none := eL
      rw [List.length_eq_zero_iff.1 ht0, eL] at hgo
      refine wd ?_
      ((try (first | intro K ms hms hK | intro K hK)); (first | apply Chain.go | apply Chain.goD); exact rfl; exact rfl; exact Loc.strEq (r := false) rfl rfl rfl (neT (m := bOf) (by decide)))
      refine wd ?_
      rw [hgo]
      exact ⟨.cn rfl rfl inferInstance rfl ⟨.inl rfl, .inr rfl, trivial⟩, .d rfl (.inl (by simp)), trivial⟩
     refine wd ?_
     ((try (first | intro K ms hms hK | intro K hK)); (first | apply Chain.go | apply Chain.goD); exact rfl; exact rfl; exact Loc.tailL 1 rfl rfl rfl rfl (by simp) (by simp))
     have htl : (t.map fun x => [D.v (.string (tx x))]).length = t.length := words_len t
     refine wd ?_
     refine AC.loop (X := List Rat) (fun x => ⟨[(2, .p 2 0), (4, .d (.v (ptv b 0))), (5, .d (.v (.bool true))), (22, .d (wordsE ll)), (23, .d (.v (.int .i64 (ll.length : Int)))), (24, .d (.v (.int .i64 (i : Int)))), (6, .d (.v (.int .i64 (i : Int)))), (9, .d (.v (.int .i64 (ls.length : Int)))), (11, .r 145 x.length), (147, .d (.l (t.map fun x => [D.v (.string (tx x))]))), (148, .d (.v (.int .i64 (t.length : Int)))), (149, .d (.v (.int .i64 (x.length : Int))))], (145, .row x.length 136 3 (x.map enQ)) :: [(2, .box 44 [.d (.v (.int .i64 0)), .d .n]), (4, boxO b 44 [.v (.int .i64 (⟨inn, ls, some l⟩ : NS).inn), .v (slv bL (ls.length + 1) cL)]), (50, rowO (slv bL (ls.length + 1) cL) 62 4 (rowsOfD ⟨inn, ls, some l⟩ xW xB xG)), (51, rowO xW 57 1 (lastWD ⟨inn, ls, some l⟩)), (52, rowO xB 136 3 (lastBD ⟨inn, ls, some l⟩)), (53, rowO xG 31 1 (lastG ⟨inn, ls, some l⟩))]⟩) (fun x => ratsW (t.take x.length) = some x ∧ x.length ≤ t.length) (fun x => t.length - x.length) [] ⟨rfl, Nat.zero_le _⟩ ⟨rfl, rfl, rfl, rfl, rfl, rfl, rfl, ivw (by first | omega | (push_cast; omega)), rfl, rfl, rfl, rfl, trivial⟩ ⟨rfl, rfl, rfl, rfl, rfl, rfl, rfl, trivial⟩ ?_
     intro x ⟨hx, hxl⟩
     have hmx : (x.map enQ).length = x.length := List.length_map ..
     dsimp only
     refine wd ?_
     refine s1 (fun h2 => ?_) (fun h2 => ?_)
     ·have hi' : x.length < t.length := by omega
      have hgt : t[x.length]? = some t[x.length] := List.getElem?_eq_getElem hi'
      obtain ⟨o1, o2⟩ := hw' _ (List.getElem_mem hi')
      obtain ⟨p1, p2⟩ := ratsW_step hx hgt
      generalize t[x.length] = y at hgt o1 o2 p1 p2
      have hf := parse06F y o2
      cases hc : parseR y with
      | none =>
       rw [hc] at hf
       rw [p2 hc] at eL
       replace eL : lineS ⟨inn, ls, some l⟩ bRow t false = none := eL
       rw [eL] at hgo
       refine wd ?_
       refine c1 hf ?_
       refine wd ?_
       rw [hgo]
       exact ⟨.cn rfl rfl inferInstance rfl ⟨.inl rfl, .inr rfl, trivial⟩, .d rfl (.inl (by simp)), trivial⟩
      | some r =>
       rw [hc] at hf
       have q1 := p1 r hc
       refine wd ?_
       refine c1 hf ?_
       refine wd ?_
       ((try (first | intro K ms hms hK | intro K hK)); (first | apply Chain.go | apply Chain.goD); exact rfl; exact rfl; exact Loc.litP rfl rfl rfl rfl rfl rfl rfl)
       refine wd ?_
       exact ⟨x ++ [r], ⟨by simpa using q1, by simp; omega⟩, by simp; omega, ⟨rfl, rfl, rfl, rfl, rfl, rfl, rfl, rfl, iv10 (by simp), rfl, rfl, ivw (by simp), trivial⟩, ⟨by simp; rfl, rfl, rfl, rfl, rfl, rfl, rfl, trivial⟩⟩
     ·have hall : ratsW t = some x := by rw [List.take_of_length_le (by omega)] at hx; exact hx
      have hx0 : x.length = t.length := by omega
      have hne : x ≠ [] := fun e => by rw [e] at hx0; simp at hx0; omega
      have hlast : x.getLast? = some (x.getLast hne) := List.getLast?_eq_some_getLast hne
      generalize x.getLast hne = q at hlast
      have hdl : x.dropLast.length = x.length - 1 := List.length_dropLast
      have hgl : x[x.length - 1]? = some q := by rw [← hlast, List.getLast?_eq_getElem?]
      have htk : (x.map enQ).take (x.length - 1) = x.dropLast.map enQ := by rw [List.dropLast_eq_take, List.map_take]
      rw [hall] at eL
      dsimp only at eL
      rw [hlast] at eL
      replace eL : lineS ⟨inn, ls, some l⟩ bRow t false = some ⟨inn, ls, some ⟨l.kind, l.W ++ [x.dropLast], l.B ++ [q], l.G⟩⟩ := eL
      rw [eL] at hgo
      refine wd ?_
      refine AC.frzVar 11 rfl rfl ?_
      refine AC.drwL _ rfl (by kernel_rfl) (by decide +kernel) ?_
      refine wd ?_
      ((try (first | intro K ms hms hK | intro K hK)); (first | apply Chain.go | apply Chain.goD); exact rfl; exact rfl; exact Loc.idxV ls.length rfl rfl rfl (by omega) (by omega))
      refine wd ?_
      ((try (first | intro K ms hms hK | intro K hK)); (first | apply Chain.go | apply Chain.goD); exact rfl; exact rfl; exact Loc.loadO1 (id := 50) ls.length 1 rfl rfl rfl rfl hrow rfl)
      refine wd ?_
      ((try (first | intro K ms hms hK | intro K hK)); (first | apply Chain.go | apply Chain.goD); exact rfl; exact rfl; exact Loc.partH (x.length - 1) rfl rfl rfl (by omega) (by omega))
      rw [htk]
      ((try (first | intro K ms hms hK | intro K hK)); (first | apply Chain.go | apply Chain.goD); exact rfl; exact rfl; exact Loc.litP rfl rfl rfl rfl rfl rfl rfl)
      ((try (first | intro K ms hms hK | intro K hK)); (first | apply Chain.ef2 | apply Chain.efD2); exact rfl; exact rfl; exact Do.appendP 51 rfl rfl rfl rfl rfl (by simp) (by simp [lastWD]; omega) (Nat.zero_lt_one); exact rfl; exact rfl)
      refine wd ?_
      ((try (first | intro K ms hms hK | intro K hK)); (first | apply Chain.go | apply Chain.goD); exact rfl; exact rfl; exact Loc.idxV ls.length rfl rfl rfl (by omega) (by omega))
      refine wd ?_
      (first | intro K ms hms hK | intro K hK | skip)
      refine Chain.pinR 184 184 rfl rfl fun xW' hxW => ?_
      ((try (first | intro K ms hms hK | intro K hK)); (first | apply Chain.st | apply Chain.stD); exact rfl; exact rfl; exact Do.storeO (id := 50) ls.length 1 rfl rfl rfl rfl hrow rfl rfl rfl rfl rfl; exact rfl; exact rfl)
      refine wd ?_
      refine AC.giveO 184 51 rfl rfl ?_
      have hrow' := rowsD_get ls [.v (.int .i64 l.kind), .v xW', .v xB, .v xG]
      have hset : (rowsOfD ⟨inn, ls, some l⟩ xW xB xG).set ls.length [.v (.int .i64 l.kind), .v xW', .v xB, .v xG] = ls.map enLD ++ [[.v (.int .i64 l.kind), .v xW', .v xB, .v xG]] := rowsD_set ls _ _
      have hset2 : ∀ xB', (ls.map enLD ++ [[D.v (.int .i64 l.kind), D.v xW', D.v xB, D.v xG]]).set ls.length [D.v (.int .i64 l.kind), D.v xW', D.v xB', D.v xG] = rowsOfD ⟨inn, ls, some ⟨l.kind, l.W ++ [x.dropLast], l.B ++ [q], l.G⟩⟩ xW' xB' xG := fun xB' => rowsD_set ls _ _
      have eW : lastWD ⟨inn, ls, some l⟩ ++ [[enQs x.dropLast]] = lastWD ⟨inn, ls, some ⟨l.kind, l.W ++ [x.dropLast], l.B ++ [q], l.G⟩⟩ := by simp [lastWD]
      have eB : lastBD ⟨inn, ls, some l⟩ ++ [enQ q] = lastBD ⟨inn, ls, some ⟨l.kind, l.W ++ [x.dropLast], l.B ++ [q], l.G⟩⟩ := by simp [lastBD]
      refine AC.sub ⟨[(2, .p 2 0), (4, .d (.v (ptv b 0))), (5, .d (.v (.bool true))), (22, .d (wordsE ll)), (23, .d (.v (.int .i64 (ll.length : Int)))), (24, .d (.v (.int .i64 (i : Int)))), (6, .d (.v (.int .i64 (i : Int)))), (9, .d (.v (.int .i64 (ls.length : Int)))), (11, .d (.l (x.map enQ))), (16, .d (.v (.int .i64 (((x.map enQ).length : Int) - 1))))], [(2, .box 44 [.d (.v (.int .i64 0)), .d .n]), (4, boxO b 44 [.v (.int .i64 inn), .v (slv bL (ls.length + 1) cL)]), (50, rowO (slv bL (ls.length + 1) cL) 62 4 (ls.map enLD ++ [[D.v (.int .i64 l.kind), D.v xW', D.v xB, D.v xG]])), (51, rowO xW' 57 1 (lastWD ⟨inn, ls, some l⟩ ++ [[enQs x.dropLast]])), (52, rowO xB 136 3 (lastBD ⟨inn, ls, some l⟩)), (53, rowO xG 31 1 (lastG ⟨inn, ls, some l⟩))]⟩ ⟨rfl, rfl, rfl, rfl, rfl, rfl, rfl, rfl, rfl, rfl, trivial⟩ ⟨rfl, rfl, congrArg (fun r => some (rowO _ _ _ r)) hset, rfl, rfl, rfl, trivial⟩ ?_
      refine AC.drwL _ rfl (by kernel_rfl) (by decide +kernel) ?_
      refine wd ?_
      ((try (first | intro K ms hms hK | intro K hK)); (first | apply Chain.go | apply Chain.goD); exact rfl; exact rfl; exact Loc.idxV ls.length rfl rfl rfl (by omega) (by omega))
      refine wd ?_
      ((try (first | intro K ms hms hK | intro K hK)); (first | apply Chain.go | apply Chain.goD); exact rfl; exact rfl; exact Loc.loadO1 (id := 50) ls.length 2 rfl rfl rfl rfl hrow' rfl)
      refine wd ?_
      ((try (first | intro K ms hms hK | intro K hK)); (first | apply Chain.go | apply Chain.goD); exact rfl; exact rfl; exact Loc.idxM (i := x.length - 1) rfl rfl rfl (by omega) hgl rfl)
      refine wd ?_
      ((try (first | intro K ms hms hK | intro K hK)); (first | apply Chain.go | apply Chain.goD); exact rfl; exact rfl; exact Loc.litP rfl rfl rfl rfl rfl rfl rfl)
      ((try (first | intro K ms hms hK | intro K hK)); (first | apply Chain.ef2 | apply Chain.efD2); exact rfl; exact rfl; exact Do.appendP 52 rfl rfl rfl rfl rfl (by simp [enQ]) (by simp [lastBD]; omega) (Nat.zero_lt_one); exact rfl; exact rfl)
      refine wd ?_
      ((try (first | intro K ms hms hK | intro K hK)); (first | apply Chain.go | apply Chain.goD); exact rfl; exact rfl; exact Loc.idxV ls.length rfl rfl rfl (by omega) (by omega))
      refine wd ?_
      (first | intro K ms hms hK | intro K hK | skip)
      refine Chain.pinR 201 201 rfl rfl fun xB' hxB => ?_
      ((try (first | intro K ms hms hK | intro K hK)); (first | apply Chain.st | apply Chain.stD); exact rfl; exact rfl; exact Do.storeO (id := 50) ls.length 2 rfl rfl rfl rfl hrow' rfl rfl rfl rfl rfl; exact rfl; exact rfl)
      (first | intro K ms hms hK | intro K hK | skip)
      refine Chain.giveO 201 52 rfl rfl ?_
      refine Chain.sub ⟨[(2, .p 2 0), (4, .d (.v (ptv b 0))), (5, .d (.v (.bool true))), (22, .d (wordsE ll)), (23, .d (.v (.int .i64 (ll.length : Int)))), (24, .d (.v (.int .i64 (i : Int))))], [(2, .box 44 [.d (.v (.int .i64 0)), .d .n]), (4, boxO b 44 [.v (.int .i64 (⟨inn, ls, some ⟨l.kind, l.W ++ [x.dropLast], l.B ++ [q], l.G⟩⟩ : NS).inn), .v (slv bL (ls.length + 1) cL)]), (50, rowO (slv bL (ls.length + 1) cL) 62 4 (rowsOfD ⟨inn, ls, some ⟨l.kind, l.W ++ [x.dropLast], l.B ++ [q], l.G⟩⟩ xW' xB' xG)), (51, rowO xW' 57 1 (lastWD ⟨inn, ls, some ⟨l.kind, l.W ++ [x.dropLast], l.B ++ [q], l.G⟩⟩)), (52, rowO xB' 136 3 (lastBD ⟨inn, ls, some ⟨l.kind, l.W ++ [x.dropLast], l.B ++ [q], l.G⟩⟩)), (53, rowO xG 31 1 (lastG ⟨inn, ls, some ⟨l.kind, l.W ++ [x.dropLast], l.B ++ [q], l.G⟩⟩))]⟩ ⟨rfl, rfl, rfl, rfl, rfl, rfl, trivial⟩ ⟨rfl, rfl, congrArg (fun r => some (rowO _ _ _ r)) (hset2 xB'), congrArg (fun r => some (rowO _ _ _ r)) eW, congrArg (fun r => some (rowO _ _ _ r)) eB, rfl, trivial⟩ ?_
      refine wd ?_
      exact ⟨(i + 1, ⟨inn, ls, some ⟨l.kind, l.W ++ [x.dropLast], l.B ++ [q], l.G⟩⟩, false, (slv bL (ls.length + 1) cL), xW', xB', xG), ⟨hi', lineS_wf hwf eL, .inr ⟨_, _, rfl⟩, fun h => absurd h (by simp), fun h => (by cases h), hgo⟩, by dsimp only; omega, ⟨rfl, rfl, rfl, rfl, rfl, rfl, trivial⟩, ⟨rfl, rfl, rfl, rfl, rfl, rfl, trivial⟩⟩
    by_cases n6 : h = bOf
    ·obtain rfl := n6
     have eL := lineS_of (s := ⟨inn, ls, some l⟩) (t := t) (first := false)
     dsimp only at eL
     refine wd ?_
     ((try (first | intro K ms hms hK | intro K hK)); (first | apply Chain.go | apply Chain.goD); exact rfl; exact rfl; exact Loc.strEq (r := false) rfl rfl rfl (neT (m := bAff) (by decide)))
     refine wd ?_
     ((try (first | intro K ms hms hK | intro K hK)); (first | apply Chain.go | apply Chain.goD); exact rfl; exact rfl; exact Loc.strEq (r := false) rfl rfl rfl (neT (m := bRel) (by decide)))
     refine wd ?_
     ((try (first | intro K ms hms hK | intro K hK)); (first | apply Chain.go | apply Chain.goD); exact rfl; exact rfl; exact Loc.strEq (r := false) rfl rfl rfl (neT (m := bMax) (by decide)))
     refine wd ?_
     ((try (first | intro K ms hms hK | intro K hK)); (first | apply Chain.go | apply Chain.goD); exact rfl; exact rfl; exact Loc.strEq (r := false) rfl rfl rfl (neT (m := bRow) (by decide)))
     refine wd ?_
     ((try (first | intro K ms hms hK | intro K hK)); (first | apply Chain.go | apply Chain.goD); exact rfl; exact rfl; exact Loc.strEq (r := true) rfl rfl rfl (eqT (m := bOf) rfl))
     by_cases hk1 : l.kind = 3
     rotate_left
     ·rw [if_neg hk1] at eL
      rw [eL] at hgo
      refine wd ?_
      rw [hgo]
      exact ⟨.cn rfl rfl inferInstance rfl ⟨.inl rfl, .inr rfl, trivial⟩, .d rfl (.inl (by simp)), trivial⟩
     rw [if_pos hk1] at eL
     refine wd ?_
     ((try (first | intro K ms hms hK | intro K hK)); (first | apply Chain.go | apply Chain.goD); exact rfl; exact rfl; exact Loc.tailL 1 rfl rfl rfl rfl (by simp) (by simp))
     have htl : (t.map fun x => [D.v (.string (tx x))]).length = t.length := words_len t
     refine wd ?_
     refine AC.loop (X := List Int) (fun x => ⟨[(2, .p 2 0), (4, .d (.v (ptv b 0))), (5, .d (.v (.bool true))), (22, .d (wordsE ll)), (23, .d (.v (.int .i64 (ll.length : Int)))), (24, .d (.v (.int .i64 (i : Int)))), (6, .d (.v (.int .i64 (i : Int)))), (9, .d (.v (.int .i64 (ls.length : Int)))), (17, .r 213 x.length), (215, .d (.l (t.map fun x => [D.v (.string (tx x))]))), (216, .d (.v (.int .i64 (t.length : Int)))), (217, .d (.v (.int .i64 (x.length : Int))))], (213, .row x.length 3 1 (x.map fun v => [.v (.int .i64 v)])) :: [(2, .box 44 [.d (.v (.int .i64 0)), .d .n]), (4, boxO b 44 [.v (.int .i64 (⟨inn, ls, some l⟩ : NS).inn), .v (slv bL (ls.length + 1) cL)]), (50, rowO (slv bL (ls.length + 1) cL) 62 4 (rowsOfD ⟨inn, ls, some l⟩ xW xB xG)), (51, rowO xW 57 1 (lastWD ⟨inn, ls, some l⟩)), (52, rowO xB 136 3 (lastBD ⟨inn, ls, some l⟩)), (53, rowO xG 31 1 (lastG ⟨inn, ls, some l⟩))]⟩) (fun x => cntsW (t.take x.length) = some x ∧ x.length ≤ t.length) (fun x => t.length - x.length) [] ⟨rfl, Nat.zero_le _⟩ ⟨rfl, rfl, rfl, rfl, rfl, rfl, rfl, ivw (by first | omega | (push_cast; omega)), rfl, rfl, rfl, rfl, trivial⟩ ⟨rfl, rfl, rfl, rfl, rfl, rfl, rfl, trivial⟩ ?_
     intro x ⟨hx, hxl⟩
     have hmx : (x.map fun v => [D.v (.int .i64 v)]).length = x.length := List.length_map ..
     dsimp only
     refine wd ?_
     refine s1 (fun h2 => ?_) (fun h2 => ?_)
     ·have hi' : x.length < t.length := by omega
      have hgt : t[x.length]? = some t[x.length] := List.getElem?_eq_getElem hi'
      obtain ⟨o1, o2⟩ := hw' _ (List.getElem_mem hi')
      obtain ⟨p1, p2⟩ := cntsW_step hx hgt
      generalize t[x.length] = y at hgt o1 o2 p1 p2
      have hf := digits15F y (by omega)
      cases hc : cntN y with
      | none =>
       rw [dgN_none hc] at hf
       rw [p2 hc] at eL
       replace eL : lineS ⟨inn, ls, some l⟩ bOf t false = none := eL
       rw [eL] at hgo
       refine wd ?_
       refine c1 hf ?_
       refine wd ?_
       rw [hgo]
       exact ⟨.cn rfl rfl inferInstance rfl ⟨.inl rfl, .inr rfl, trivial⟩, .d rfl (.inl (by simp)), trivial⟩
      | some r =>
       rw [dgN_some o1 hc] at hf
       have q1 := p1 r hc
       refine wd ?_
       refine c1 hf ?_
       refine wd ?_
       refine c1 hf ?_
       refine wd ?_
       ((try (first | intro K ms hms hK | intro K hK)); (first | apply Chain.go | apply Chain.goD); exact rfl; exact rfl; exact Loc.litP rfl rfl rfl rfl rfl rfl rfl)
       refine wd ?_
       exact ⟨x ++ [(r : Int)], ⟨by simpa using q1, by simp; omega⟩, by simp; omega, ⟨rfl, rfl, rfl, rfl, rfl, rfl, rfl, rfl, iv10 (by simp), rfl, rfl, ivw (by simp), trivial⟩, ⟨by simp; rfl, rfl, rfl, rfl, rfl, rfl, rfl, trivial⟩⟩
     ·have hall : cntsW t = some x := by rw [List.take_of_length_le (by omega)] at hx; exact hx
      rw [hall] at eL
      replace eL : lineS ⟨inn, ls, some l⟩ bOf t false = some ⟨inn, ls, some ⟨l.kind, l.W, l.B, l.G ++ [x]⟩⟩ := eL
      rw [eL] at hgo
      have hset2 : ∀ xG', (rowsOfD ⟨inn, ls, some l⟩ xW xB xG).set ls.length [D.v (.int .i64 l.kind), D.v xW, D.v xB, D.v xG'] = rowsOfD ⟨inn, ls, some ⟨l.kind, l.W, l.B, l.G ++ [x]⟩⟩ xW xB xG' := fun xG' => rowsD_set ls _ _
      have eG : lastG ⟨inn, ls, some l⟩ ++ [[enIs x]] = lastG ⟨inn, ls, some ⟨l.kind, l.W, l.B, l.G ++ [x]⟩⟩ := by simp [lastG]
      refine wd ?_
      refine AC.frzVar 17 rfl rfl ?_
      refine AC.drwL _ rfl (by kernel_rfl) (by decide +kernel) ?_
      refine wd ?_
      ((try (first | intro K ms hms hK | intro K hK)); (first | apply Chain.go | apply Chain.goD); exact rfl; exact rfl; exact Loc.idxV ls.length rfl rfl rfl (by omega) (by omega))
      refine wd ?_
      ((try (first | intro K ms hms hK | intro K hK)); (first | apply Chain.go | apply Chain.goD); exact rfl; exact rfl; exact Loc.loadO1 (id := 50) ls.length 3 rfl rfl rfl rfl hrow rfl)
      refine wd ?_
      ((try (first | intro K ms hms hK | intro K hK)); (first | apply Chain.go | apply Chain.goD); exact rfl; exact rfl; exact Loc.litP rfl rfl rfl rfl rfl rfl rfl)
      ((try (first | intro K ms hms hK | intro K hK)); (first | apply Chain.ef2 | apply Chain.efD2); exact rfl; exact rfl; exact Do.appendP 53 rfl rfl rfl rfl rfl (by simp) (by simp [lastG]; omega) (Nat.zero_lt_one); exact rfl; exact rfl)
      refine wd ?_
      ((try (first | intro K ms hms hK | intro K hK)); (first | apply Chain.go | apply Chain.goD); exact rfl; exact rfl; exact Loc.idxV ls.length rfl rfl rfl (by omega) (by omega))
      refine wd ?_
      (first | intro K ms hms hK | intro K hK | skip)
      refine Chain.pinR 244 244 rfl rfl fun xG' hxG => ?_
      ((try (first | intro K ms hms hK | intro K hK)); (first | apply Chain.st | apply Chain.stD); exact rfl; exact rfl; exact Do.storeO (id := 50) ls.length 3 rfl rfl rfl rfl hrow rfl rfl rfl rfl rfl; exact rfl; exact rfl)
      (first | intro K ms hms hK | intro K hK | skip)
      refine Chain.giveO 244 53 rfl rfl ?_
      refine Chain.sub ⟨[(2, .p 2 0), (4, .d (.v (ptv b 0))), (5, .d (.v (.bool true))), (22, .d (wordsE ll)), (23, .d (.v (.int .i64 (ll.length : Int)))), (24, .d (.v (.int .i64 (i : Int))))], [(2, .box 44 [.d (.v (.int .i64 0)), .d .n]), (4, boxO b 44 [.v (.int .i64 (⟨inn, ls, some ⟨l.kind, l.W, l.B, l.G ++ [x]⟩⟩ : NS).inn), .v (slv bL (ls.length + 1) cL)]), (50, rowO (slv bL (ls.length + 1) cL) 62 4 (rowsOfD ⟨inn, ls, some ⟨l.kind, l.W, l.B, l.G ++ [x]⟩⟩ xW xB xG')), (51, rowO xW 57 1 (lastWD ⟨inn, ls, some ⟨l.kind, l.W, l.B, l.G ++ [x]⟩⟩)), (52, rowO xB 136 3 (lastBD ⟨inn, ls, some ⟨l.kind, l.W, l.B, l.G ++ [x]⟩⟩)), (53, rowO xG' 31 1 (lastG ⟨inn, ls, some ⟨l.kind, l.W, l.B, l.G ++ [x]⟩⟩))]⟩ ⟨rfl, rfl, rfl, rfl, rfl, rfl, trivial⟩ ⟨rfl, rfl, congrArg (fun r => some (rowO _ _ _ r)) (hset2 xG'), rfl, rfl, congrArg (fun r => some (rowO _ _ _ r)) eG, trivial⟩ ?_
      refine wd ?_
      exact ⟨(i + 1, ⟨inn, ls, some ⟨l.kind, l.W, l.B, l.G ++ [x]⟩⟩, false, (slv bL (ls.length + 1) cL), xW, xB, xG'), ⟨hi', lineS_wf hwf eL, .inr ⟨_, _, rfl⟩, fun h => absurd h (by simp), fun h => (by cases h), hgo⟩, by dsimp only; omega, ⟨rfl, rfl, rfl, rfl, rfl, rfl, trivial⟩, ⟨rfl, rfl, rfl, rfl, rfl, rfl, trivial⟩⟩
    have eL := lineS_oth (s := ⟨inn, ls, some l⟩) (t := t) n2 n3 n4 n5 n6
    rw [eL] at hgo
    refine wd ?_
    ((try (first | intro K ms hms hK | intro K hK)); (first | apply Chain.go | apply Chain.goD); exact rfl; exact rfl; exact Loc.strEq (r := false) rfl rfl rfl (neT (m := bAff) n2))
    refine wd ?_
    ((try (first | intro K ms hms hK | intro K hK)); (first | apply Chain.go | apply Chain.goD); exact rfl; exact rfl; exact Loc.strEq (r := false) rfl rfl rfl (neT (m := bRel) n3))
    refine wd ?_
    ((try (first | intro K ms hms hK | intro K hK)); (first | apply Chain.go | apply Chain.goD); exact rfl; exact rfl; exact Loc.strEq (r := false) rfl rfl rfl (neT (m := bMax) n4))
    refine wd ?_
    ((try (first | intro K ms hms hK | intro K hK)); (first | apply Chain.go | apply Chain.goD); exact rfl; exact rfl; exact Loc.strEq (r := false) rfl rfl rfl (neT (m := bRow) n5))
    refine wd ?_
    ((try (first | intro K ms hms hK | intro K hK)); (first | apply Chain.go | apply Chain.goD); exact rfl; exact rfl; exact Loc.strEq (r := false) rfl rfl rfl (neT (m := bOf) n6))
    refine wd ?_
    rw [hgo]
    exact ⟨.cn rfl rfl inferInstance rfl ⟨.inl rfl, .inr rfl, trivial⟩, .d rfl (.inl (by simp)), trivial⟩
 ·rw [List.drop_eq_nil_of_le (by omega), parseGo] at hgo
  refine wd ?_
  (first | intro K ms hms hK | intro K hK | skip)
  refine Chain.frzNetD (s := s) (xW := xW) (xB := xB) (xG := xG) hwf.2.1 rfl rfl rfl rfl rfl fun O' g1 g2 => ?_
  refine Chain.sub ⟨[(2, .p 2 0), (4, .d (.v (ptv b 0)))], [(2, .box 44 [.d (.v (.int .i64 0)), .d .n]), (4, boxO b 44 (enDN s.inn s.all))]⟩ ⟨rfl, rfl, trivial⟩ ⟨g1 2 (by decide) (by decide), g2, trivial⟩ ?_
  ((try (first | intro K ms hms hK | intro K hK)); (first | apply Chain.go | apply Chain.goD); exact rfl; exact rfl; exact Loc.loadBn (id := 4) rfl rfl rfl rfl rfl)
  refine wd ?_
  rw [hgo]
  exact ⟨.cn rfl rfl inferInstance rfl ⟨.inl rfl, .inl rfl, trivial⟩, .d rfl (.inl rfl), trivial⟩
end Go.Proofs.YthdkkpocihkgbaaGreatDoor
