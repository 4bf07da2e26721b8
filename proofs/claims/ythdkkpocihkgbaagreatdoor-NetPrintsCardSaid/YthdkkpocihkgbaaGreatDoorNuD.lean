/-
 attestref15.Same: the document's comparison of networks.
-/
import Derived.Test.YthdkkpocihkgbaaGreatDoorNtR
import Derived.Test.YthdkkpocihkgbaaGreatDoorNtX
namespace Go.Proofs.YthdkkpocihkgbaaGreatDoor
open Go.RowKit
attribute [local irreducible] AC Do St
theorem widsR_0 {n : Int} {ls : List LN} (h1 : greatB n ls = false) (h2 : 0 < ls.foldl stW n) : widsR n ls = [.d (enIs (wids n ls)), .d (.v (.int .i64 0))] := by
 unfold widsR
 rw [if_neg (by rw [h1]; decide), if_neg (by omega)]
theorem widsR_4 {n : Int} {ls : List LN} (h1 : greatB n ls = false) (h2 : ls.foldl stW n ≤ 0) : widsR n ls = [.d (.l []), .d (.v (.int .i64 4))] := by
 unfold widsR
 rw [if_neg (by rw [h1]; decide), if_pos h2]
theorem widsR_2 {n : Int} {ls : List LN} (h1 : greatB n ls = true) : widsR n ls = [.d (.l []), .d (.v (.int .i64 2))] := if_pos h1
/-- Layers that say the same. -/
def sameL (x y : LN) : Prop := x.kind = y.kind ∧ (x.kind = 1 → x.W = y.W ∧ x.B = y.B) ∧ (x.kind = 3 → x.G = y.G)
def smG (l : LN) : Prop := l.G.length ≤ 1000000 ∧ ∀ g ∈ l.G, g.length ≤ 1000000
set_option maxRecDepth 100000 in
set_option maxHeartbeats 8000000 in
theorem same15F {k m : Nat} (n : Int) (ls ms : List LN) (hk : k + m ≤ 50000000) (hl : ms.length = ls.length) (hlen : ls.length ≤ 1000000) (h1 : ∀ l ∈ ls, smLN k l ∧ smG l) (h2 : ∀ l ∈ ms, smLN m l) (hs : ∀ (i : Nat) (x y : LN), ls[i]? = some x → ms[i]? = some y → sameL x y) :
  Fn Tryz.prog 29 [.g (enDN n ls), .g (enDN n ms)] [.d (.v (.bool true))] := by
 refine Fn.of Tryz.func29 rfl (by kernel_rfl) Tryz.ntmps29 Tryz.results29 rfl fun w0 S0 => ?_
 refine wk ?_
 refine AC.loop (X := Nat) (fun i => ⟨[(2, .p 2 0), (3, .p 3 0), (27, .d (.v (.int .i64 (ls.length : Int)))), (28, .d (.v (.int .i64 (i : Int))))], [(2, .box 44 [.d (.v (.int .i64 n)), .d (.l (ls.map enLD))]), (3, .box 44 [.d (.v (.int .i64 n)), .d (.l (ms.map enLD))])]⟩) (fun i => i ≤ ls.length) (fun i => ls.length - i) 0 (Nat.zero_le _) ⟨rfl, rfl, rfl, rfl, trivial⟩ ⟨rfl, rfl, trivial⟩ ?_
 intro i hi
 dsimp only
 refine wk ?_
 refine s1 (fun g1 => ?_) (fun g1 => ?_)
 ·have hi1 : i < ls.length := by omega
  have hi2 : i < ms.length := by omega
  have hx : ls[i]? = some ls[i] := List.getElem?_eq_getElem hi1
  have hy : ms[i]? = some ms[i] := List.getElem?_eq_getElem hi2
  have hsx := hs i _ _ hx hy
  obtain ⟨⟨a1, a2, a3, a4⟩, a5, a6⟩ := h1 _ (List.getElem_mem hi1)
  obtain ⟨b1, b2, b3, b4⟩ := h2 _ (List.getElem_mem hi2)
  generalize ls[i] = x at hx hsx a1 a2 a3 a4 a5 a6
  generalize ms[i] = y at hy hsx b1 b2 b3 b4
  obtain ⟨kx, Wx, Bx, Gx⟩ := x
  obtain ⟨ky, Wy, By, Gy⟩ := y
  obtain ⟨e1, e2, e3⟩ := hsx
  dsimp only at e1 e2 e3 a1 a2 a3 a4 a5 a6 b1 b2 b3 b4
  subst e1
  have hkx : (⟨kx, Wx, Bx, Gx⟩ : LN).kind = kx := rfl
  have hky : (⟨kx, Wy, By, Gy⟩ : LN).kind = kx := rfl
  by_cases k1 : kx = 1
  ·obtain ⟨e4, e5⟩ := e2 k1
   subst e4 e5
   have hB := ratsEF (k := k) (m := m) Bx Bx (by omega) a3 b3 hk
   rw [decide_eq_true rfl] at hB
   have hWl : (Wx.map enQs).length = Wx.length := List.length_map ..
   have hWx : (List.map enQs (⟨kx, Wx, Bx, Gx⟩ : LN).W).length = Wx.length := List.length_map ..
   have hWy : (List.map enQs (⟨kx, Wx, Bx, Gy⟩ : LN).W).length = Wx.length := List.length_map ..
   refine wk ?_
   refine c1 hB ?_
   refine wk ?_
   refine AC.loop (X := Nat) (fun j => ⟨[(2, .p 2 0), (3, .p 3 0), (6, .p 6 0), (7, .p 7 0), (27, .d (.v (.int .i64 (ls.length : Int)))), (28, .d (.v (.int .i64 (i : Int)))), (66, .d (.v (.int .i64 (Wx.length : Int)))), (67, .d (.v (.int .i64 (j : Int))))], [(2, .box 44 [.d (.v (.int .i64 n)), .d (.l (ls.map enLD))]), (3, .box 44 [.d (.v (.int .i64 n)), .d (.l (ms.map enLD))]), (6, .box 62 [.d (.v (.int .i64 kx)), .d (rowsD (Wx.map enQs)), .d (enQs Bx), .d (rowsD (Gx.map enIs))]), (7, .box 62 [.d (.v (.int .i64 kx)), .d (rowsD (Wx.map enQs)), .d (enQs Bx), .d (rowsD (Gy.map enIs))])]⟩) (fun j => j ≤ Wx.length) (fun j => Wx.length - j) 0 (Nat.zero_le _) ⟨rfl, rfl, rfl, rfl, rfl, rfl, ivw (by dsimp only; omega), rfl, trivial⟩ ⟨rfl, rfl, rfl, rfl, trivial⟩ ?_
   intro j hj
   dsimp only
   refine wk ?_
   refine s1 (fun g2 => ?_) (fun g2 => ?_)
   ·have hj1 : j < Wx.length := by omega
    have hr : (Wx.map enQs)[j]? = some (enQs Wx[j]) := gm enQs hj1
    have c1' := a1 _ (List.getElem_mem hj1)
    have c2' := b1 _ (List.getElem_mem hj1)
    generalize Wx[j] = r at hr c1' c2'
    have hR := ratsEF (k := k) (m := m) r r (by omega) c1'.2 c2'.2 hk
    rw [decide_eq_true rfl] at hR
    refine wk ?_
    refine c1 hR ?_
    refine wk ?_
    exact ⟨j + 1, hj1, by omega, ⟨rfl, rfl, rfl, rfl, rfl, rfl, rfl, rfl, trivial⟩, ⟨rfl, rfl, rfl, rfl, trivial⟩⟩
   ·refine wk ?_
    exact ⟨i + 1, hi1, by omega, ⟨rfl, rfl, rfl, rfl, trivial⟩, ⟨rfl, rfl, trivial⟩⟩
  by_cases k3 : kx = 3
  ·have e4 := e3 k3
   subst e4
   have hGx : (List.map enIs (⟨kx, Wx, Bx, Gx⟩ : LN).G).length = Gx.length := List.length_map ..
   have hGy : (List.map enIs (⟨kx, Wy, By, Gx⟩ : LN).G).length = Gx.length := List.length_map ..
   have hGl : (Gx.map enIs).length = Gx.length := List.length_map ..
   refine wk ?_
   refine AC.loop (X := Nat) (fun j => ⟨[(2, .p 2 0), (3, .p 3 0), (6, .p 6 0), (7, .p 7 0), (27, .d (.v (.int .i64 (ls.length : Int)))), (28, .d (.v (.int .i64 (i : Int)))), (95, .d (.v (.int .i64 (Gx.length : Int)))), (96, .d (.v (.int .i64 (j : Int))))], [(2, .box 44 [.d (.v (.int .i64 n)), .d (.l (ls.map enLD))]), (3, .box 44 [.d (.v (.int .i64 n)), .d (.l (ms.map enLD))]), (6, .box 62 [.d (.v (.int .i64 kx)), .d (rowsD (Wx.map enQs)), .d (enQs Bx), .d (rowsD (Gx.map enIs))]), (7, .box 62 [.d (.v (.int .i64 kx)), .d (rowsD (Wy.map enQs)), .d (enQs By), .d (rowsD (Gx.map enIs))])]⟩) (fun j => j ≤ Gx.length) (fun j => Gx.length - j) 0 (Nat.zero_le _) ⟨rfl, rfl, rfl, rfl, rfl, rfl, ivw (by dsimp only; omega), rfl, trivial⟩ ⟨rfl, rfl, rfl, rfl, trivial⟩ ?_
   intro j hj
   dsimp only
   refine wk ?_
   refine s1 (fun g2 => ?_) (fun g2 => ?_)
   ·have hj1 : j < Gx.length := by omega
    have hr : (Gx.map enIs)[j]? = some (enIs Gx[j]) := gm enIs hj1
    have a7 := a6 _ (List.getElem_mem hj1)
    obtain ⟨r, hre⟩ : ∃ r, Gx[j] = r := ⟨_, rfl⟩
    rw [hre] at hr a7
    refine wk ?_
    refine AC.loop (X := Nat) (fun q => ⟨[(2, .p 2 0), (3, .p 3 0), (6, .p 6 0), (7, .p 7 0), (9, .d (.v (.int .i64 (j : Int)))), (27, .d (.v (.int .i64 (ls.length : Int)))), (28, .d (.v (.int .i64 (i : Int)))), (95, .d (.v (.int .i64 (Gx.length : Int)))), (96, .d (.v (.int .i64 (j : Int)))), (117, .d (.v (.int .i64 (r.length : Int)))), (118, .d (.v (.int .i64 (q : Int))))], [(2, .box 44 [.d (.v (.int .i64 n)), .d (.l (ls.map enLD))]), (3, .box 44 [.d (.v (.int .i64 n)), .d (.l (ms.map enLD))]), (6, .box 62 [.d (.v (.int .i64 kx)), .d (rowsD (Wx.map enQs)), .d (enQs Bx), .d (rowsD (Gx.map enIs))]), (7, .box 62 [.d (.v (.int .i64 kx)), .d (rowsD (Wy.map enQs)), .d (enQs By), .d (rowsD (Gx.map enIs))])]⟩) (fun q => q ≤ r.length) (fun q => r.length - q) 0 (Nat.zero_le _) ⟨rfl, rfl, rfl, rfl, rfl, rfl, rfl, rfl, rfl, rfl, rfl, trivial⟩ ⟨rfl, rfl, rfl, rfl, trivial⟩ ?_
    intro q hq
    dsimp only
    refine wk ?_
    refine s1 (fun g3 => ?_) (fun g3 => ?_)
    ·have hq1 : q < r.length := by omega
     have hv : r[q]? = some r[q] := List.getElem?_eq_getElem hq1
     generalize r[q] = v at hv
     refine wk ?_
     exact ⟨q + 1, hq1, by omega, ⟨rfl, rfl, rfl, rfl, rfl, rfl, rfl, rfl, rfl, rfl, rfl, trivial⟩, ⟨rfl, rfl, rfl, rfl, trivial⟩⟩
    ·refine wk ?_
     exact ⟨j + 1, hj1, by omega, ⟨rfl, rfl, rfl, rfl, rfl, rfl, rfl, rfl, trivial⟩, ⟨rfl, rfl, rfl, rfl, trivial⟩⟩
   ·refine wk ?_
    exact ⟨i + 1, hi1, by omega, ⟨rfl, rfl, rfl, rfl, trivial⟩, ⟨rfl, rfl, trivial⟩⟩
  ·refine wk ?_
   exact ⟨i + 1, hi1, by omega, ⟨rfl, rfl, rfl, rfl, trivial⟩, ⟨rfl, rfl, trivial⟩⟩
 ·refine wk ?_
  exact ⟨.d rfl (.inl rfl), trivial⟩
end Go.Proofs.YthdkkpocihkgbaaGreatDoor
