import Derived.Shelf.LaysM
import Derived.Shelf.Strconv.Itoa3
import Derived.Lib.AppendIntMem
import Derived.Lib.ItoaLen
import Derived.Test.YtbbpecfapohlaaaGreatDoorProg
import Derived.Test.YtbbpecfapohlaaaGreatDoorBr
import Derived.Test.YtbbpecfapohlaaaGreatDoorLayAtoi
import Derived.Test.YtbbpecfapohlaaaGreatDoorNtB
import Derived.Test.YtbbpecfapohlaaaGreatDoorOw
namespace Go.Proofs
open Go.Shelf
def Tryz.laysM171_ren : Go.Shelf.Ren := ⟨fun | 171 => 88 | 243 => 155 | 246 => 224 | 283 => 255 | 284 => 256 | 285 => 257 | 286 => 258 | 129 => 269 | 317 => 290 | 318 => 291 | 319 => 292 | 320 => 293 | 337 => 312 | 338 => 313 | n => n, fun | 3 => 3 | 9 => 9 | 2 => 2 | 4 => 4 | 171 => 341 | 0 => 0 | 53 => 218 | 37 => 196 | 5 => 5 | 173 => 344 | 212 => 379 | 51 => 225 | 20 => 20 | 213 => 380 | 46 => 301 | 232 => 414 | 233 => 415 | n => n, fun | 17 => 0 | 18 => 4 | 19 => 5 | n => n⟩
theorem Tryz.laysM171 : Go.Proofs.LaysM.n171 Tryz.prog Tryz.laysM171_ren := {
  mixed := by kernel_rfl
  f129 := Tryz.func269.trans (congrArg some (by kernel_rfl))
  f171 := Tryz.func88.trans (congrArg some (by kernel_rfl))
  f243 := Tryz.func155.trans (congrArg some (by kernel_rfl))
  f246 := Tryz.func224.trans (congrArg some (by kernel_rfl))
  f283 := Tryz.func255.trans (congrArg some (by kernel_rfl))
  f284 := Tryz.func256.trans (congrArg some (by kernel_rfl))
  f285 := Tryz.func257.trans (congrArg some (by kernel_rfl))
  f286 := Tryz.func258.trans (congrArg some (by kernel_rfl))
  f317 := Tryz.func290.trans (congrArg some (by kernel_rfl))
  f318 := Tryz.func291.trans (congrArg some (by kernel_rfl))
  f319 := Tryz.func292.trans (congrArg some (by kernel_rfl))
  f320 := Tryz.func293.trans (congrArg some (by kernel_rfl))
  f337 := Tryz.func312.trans (congrArg some (by kernel_rfl))
  f338 := Tryz.func313.trans (congrArg some (by kernel_rfl))
  t0 := Tryz.underlying0
  a0 := Tryz.isAgg0
  z0 := Tryz.sizeOf0
  v0 := Tryz.zeroValue0
  t2 := Tryz.underlying2
  a2 := Tryz.isAgg2
  z2 := Tryz.sizeOf2
  v2 := Tryz.zeroValue2
  t3 := Tryz.underlying3
  a3 := Tryz.isAgg3
  z3 := Tryz.sizeOf3
  v3 := Tryz.zeroValue3
  t4 := Tryz.underlying4
  a4 := Tryz.isAgg4
  z4 := Tryz.sizeOf4
  v4 := Tryz.zeroValue4
  t5 := Tryz.underlying5
  a5 := Tryz.isAgg5
  z5 := Tryz.sizeOf5
  v5 := Tryz.zeroValue5
  t9 := Tryz.underlying9
  a9 := Tryz.isAgg9
  z9 := Tryz.sizeOf9
  v9 := Tryz.zeroValue9
  t20 := Tryz.underlying20
  a20 := Tryz.isAgg20
  z20 := Tryz.sizeOf20
  v20 := Tryz.zeroValue20
  t37 := Tryz.underlying196
  a37 := Tryz.isAgg196
  z37 := Tryz.sizeOf196
  v37 := Tryz.zeroValue196
  t46 := Tryz.underlying301
  a46 := Tryz.isAgg301
  z46 := Tryz.sizeOf301
  v46 := Tryz.zeroValue301
  t51 := Tryz.underlying225
  a51 := Tryz.isAgg225
  z51 := Tryz.sizeOf225
  v51 := Tryz.zeroValue225
  t53 := Tryz.underlying218
  a53 := Tryz.isAgg218
  z53 := Tryz.sizeOf218
  v53 := Tryz.zeroValue218
  t171 := Tryz.underlying341
  a171 := Tryz.isAgg341
  z171 := Tryz.sizeOf341
  v171 := Tryz.zeroValue341
  t173 := Tryz.underlying344
  a173 := Tryz.isAgg344
  z173 := Tryz.sizeOf344
  v173 := Tryz.zeroValue344
  t212 := Tryz.underlying379
  a212 := Tryz.isAgg379
  z212 := Tryz.sizeOf379
  v212 := Tryz.zeroValue379
  t213 := Tryz.underlying380
  a213 := Tryz.isAgg380
  z213 := Tryz.sizeOf380
  t232 := Tryz.underlying414
  a232 := Tryz.isAgg414
  z232 := Tryz.sizeOf414
  v232 := Tryz.zeroValue414
  t233 := Tryz.underlying415
  a233 := Tryz.isAgg415
  z233 := Tryz.sizeOf415
  v233 := Tryz.zeroValue415
  g17 := by kernel_rfl
  g18 := by kernel_rfl
  g19 := by kernel_rfl
  i0 := by kernel_rfl
  i2 := by kernel_rfl
  i3 := by kernel_rfl
  i4 := by kernel_rfl
  i5 := by kernel_rfl
  i9 := by kernel_rfl
  i20 := by kernel_rfl
  i37 := by kernel_rfl
  i46 := by kernel_rfl
  i51 := by kernel_rfl
  i53 := by kernel_rfl
  i171 := by kernel_rfl
  i173 := by kernel_rfl
  i212 := by kernel_rfl
  i232 := by kernel_rfl
  i233 := by kernel_rfl
  m17 := by kernel_rfl
  m18 := by kernel_rfl
  m19 := by kernel_rfl }
open Go.RowKit Go.Sort Go.Lib in
/-- strconv.Itoa: "Itoa is equivalent to FormatInt(int64(i), 10).": i's DECIMAL NUMERAL ('Lib.itoa': a '-' where i is negative, then the digits), FOR EVERY int. The world behind the call: the world before it, new blocks behind the heap (the library's 'var a [24]byte'), draws. (LAID: no walk: one application.) -/
theorem Tryz.strconv_Itoa (n : Int) (h0 : -9223372036854775808 ≤ n) (h1 : n ≤ 9223372036854775807) (w : World) (htab : Lib.TabIs Tryz.prog w "internal/strconv.uint64pow10" .u64 Lib.pow10Tab) :
    Calls Tryz.prog 88 #[.int .i64 n] w fun e w' => e = .returned (.string ⟨(Lib.itoa n).toArray⟩) ∧ ∃ k os, w' = grow (w.drewN k) os := Any.strconv_Itoa Tryz.laysM171 n h0 h1 w htab
end Go.Proofs
namespace Go.Proofs.YtbbpecfapohlaaaGreatDoor
open Go.RowKit
/-- The library's table of powers of ten is as the text lays it. -/
def Tab (w : World) : Prop := Lib.TabIs Tryz.prog w "internal/strconv.uint64pow10" .u64 Lib.pow10Tab
theorem Tab.ext {w w' : World} (h : Tab w) (hx : Ext w w') : Tab w' := Lib.tabBelow_of_tabIs h w' hx
theorem itoaF (n : Int) (h0 : -9223372036854775808 ≤ n) (h1 : n ≤ 9223372036854775807) : FnK Tryz.prog 88 Tab [.d (.v (.int .i64 n))] [.d (.v (.string (tx (Lib.itoa n))))] :=
  ⟨⟨_, Tryz.func88, by kernel_rfl, by kernel_rfl⟩, fun S w vs hK hS hv => by
    obtain ⟨u, rfl, ha⟩ := hv.one
    have ha : RD S w u (.v (.int .i64 n)) := ha
    cases ha
    refine (Tryz.strconv_Itoa n h0 h1 w hK).mono ?_
    rintro e w' ⟨rfl, k, os, rfl⟩
    exact ⟨_, rfl, Lib.below_grow _ _ (Nat.le_refl _) k os, (RD.v rfl : RD _ _ _ _)⟩⟩
end Go.Proofs.YtbbpecfapohlaaaGreatDoor
namespace Go.Proofs.YtbbpecfapohlaaaGreatDoor
open Go.RowKit
attribute [local irreducible] AC Do St
section
variable {P : Program} {C : Cx} {o : Oper} {σ : AS}
theorem Loc.nilNeF {T T' : TypeId} {x : Operand} (ho : o.op = .binOp .neq T x (.const .nilIface) T') (hx : ev σ x = .d (.v .nilIface)) (hT : ∀ w, (Op.equal T .nilIface .nilIface).run P w = .ok true w) : Loc P C o σ (.d (.v (.bool false))) :=
  Loc.one (X := x) (by rw [ho]; simp [Op.operands]) hx fun S w β O c h1' => by
    refine ⟨.bool false, ?_, .mk rfl⟩
    unfold execOp; rw [ho]
    have hg : (eqGuard .neq T x (.const .nilIface) .nilIface .nilIface).run P w = .ok () w := by
      unfold eqGuard
      simp
    have h2 : c.eval (.const .nilIface) = .nilIface := rfl
    simp [RA.val h1', h2, hg, binOp, hT]
theorem Loc.nilNeT {T T' : TypeId} {x : Operand} {t : TypeId} {p : Value} (ho : o.op = .binOp .neq T x (.const .nilIface) T') (hx : ev σ x = .d (.v (.iface t p))) (hT : ∀ w, (Op.equal T (.iface t p) .nilIface).run P w = .ok false w) : Loc P C o σ (.d (.v (.bool true))) :=
  Loc.one (X := x) (by rw [ho]; simp [Op.operands]) hx fun S w β O c h1' => by
    refine ⟨.bool true, ?_, .mk rfl⟩
    unfold execOp; rw [ho]
    have hg : (eqGuard .neq T x (.const .nilIface) (.iface t p) .nilIface).run P w = .ok () w := by
      unfold eqGuard
      simp
    have h2 : c.eval (.const .nilIface) = .nilIface := rfl
    simp [RA.val h1', h2, hg, binOp, hT]
end
/-- The library's two errors of numbers hold values of an interface. -/
def ErrV (w : World) : Prop := (∃ tp p, w.var? Tryz.prog "strconv.ErrSyntax" = some #[.iface tp p]) ∧ ∃ tp p, w.var? Tryz.prog "strconv.ErrRange" = some #[.iface tp p]
theorem var_keep {P : Program} {w w' : World} {n : String} {cs : Array Value} (h : w.var? P n = some cs) (hx : Ext w w') : w'.var? P n = some cs := by
  unfold World.var? at h ⊢
  cases hg : P.globalNamed n with
  | none => simp [hg] at h
  | some g =>
    simp only [hg, Option.bind_some] at h ⊢
    have hlt : g < w.heap.size := by
      cases e : w.heap[g]? with
      | none => rw [e] at h; simp at h
      | some o => exact (Array.getElem?_eq_some_iff.1 e).1
    rw [hx.block g hlt]
    exact h
instance : KSt ErrV := ⟨fun _ _ ⟨⟨t, p, h1⟩, ⟨u, q, h2⟩⟩ hx => ⟨⟨t, p, var_keep h1 hx⟩, ⟨u, q, var_keep h2 hx⟩⟩⟩
theorem atoiOK {l : List UInt8} {v : Int} (h : Lib.atoiAll l = .ok v) (hl : l.length ≤ 1000000000) : Fn Tryz.prog 219 [.d (.v (.string (tx l)))] [.d (.v (.int .i64 v)), .d (.v .nilIface)] :=
  ⟨⟨_, Tryz.func219, by kernel_rfl, by kernel_rfl⟩, fun S w vs hS hv => by
    match vs, hv with
    | [u], hv =>
    have ha := hv.2 0 (by simp) (by simp)
    have ha : RD S w u (.v (.string (tx l))) := ha
    cases ha
    refine (Any.strconv_Atoi_ok Tryz.laysC172 (tx l) (by rw [tx_size]; omega) v h w).mono ?_
    rintro e w' ⟨rfl, hw⟩
    refine ⟨_, rfl, ?_, ⟨_, rfl, rfl, fun i h h' => ?_⟩⟩
    · rcases hw with rfl | ⟨t, rfl⟩
      · exact Below.refl _ _
      · exact Lib.bytesWorld_below _ _ _
    · match i, h with
      | 0, _ => exact .v rfl
      | 1, _ => exact .v rfl
    | [], hv => exact absurd hv.1 (by simp)
    | _ :: _ :: _, hv => exact absurd hv.1 (by simp)⟩
theorem atoiB {l : List UInt8} (h : ∀ v, Lib.atoiAll l ≠ .ok v) (hl : l.length ≤ 1000000000) {Kw : World → Prop} [hk : KHas Kw ErrV] : FnO Tryz.prog 219 Kw [] [.d (.v (.string (tx l)))] (fun post res => post = [] ∧ ∃ n t p, res = [.d (.v (.int .i64 n)), .d (.v (.iface t p))]) :=
  ⟨⟨_, Tryz.func219, by kernel_rfl, by kernel_rfl⟩, fun S w vs hK hS hO hv => by
    have hE := hk.has w (hK w ⟨rfl, rfl, rfl, Nat.le_refl _, fun _ _ _ => rfl⟩)
    obtain ⟨⟨t1, p1, e1⟩, ⟨t2, p2, e2⟩⟩ := hE
    match vs, hv with
    | [u], hv =>
    have ha := hv.2 0 (by simp) (by simp)
    have ha : RD S w u (.v (.string (tx l))) := ha
    cases ha
    have fin : ∀ (n : Int) (t : TypeId) (N : Nat) (w' : World), Below w.heap.size w w' → ∃ post res u, (post = [] ∧ ∃ n t p, res = [DV.d (.v (.int .i64 n)), DV.d (.v (.iface t p))]) ∧ post.length = ([] : List (Value × Rel)).length ∧ Ending.returned (Value.tuple #[.int .i64 n, .iface t (.pointer (some ⟨N, 0, none⟩))]) = .returned u ∧ w'.os = w.os ∧ w'.tape = w.tape ∧ w'.output = w.output ∧ w.heap.size ≤ w'.heap.size ∧
      (∀ b, b < w.heap.size → (∀ x ∈ ([] : List (Value × Rel)), blk x.1 ≠ some b) → w'.heap[b]? = w.heap[b]?) ∧ (∀ x ∈ post, ∀ b, blk x.1 = some b → w.heap.size ≤ b ∨ ∃ y ∈ ([] : List (Value × Rel)), blk y.1 = some b) ∧
      OwnsL (XO S w w' [] post) w' post ∧ RA (XO S w w' [] post) w' (fun _ => undef) [] u (resAV res) := fun n t N w' hb => by
      refine ⟨[], [.d (.v (.int .i64 n)), .d (.v (.iface t (.pointer (some ⟨N, 0, none⟩))))], _, ⟨rfl, n, t, _, rfl⟩, rfl, rfl, hb.os, hb.tape, hb.output, hb.size, fun b h1 _ => hb.block b h1, fun x hx => (nomatch hx), ⟨fun i h => absurd h (by simp), fun i h => absurd h (by simp), fun i h => absurd h (by simp), fun i j h => absurd h (by simp)⟩, ⟨_, rfl, rfl, fun i h h' => ?_⟩⟩
      match i, h with
      | 0, _ => exact .v rfl
      | 1, _ => exact .v rfl
    cases hc : Lib.atoiAll l
    · exact absurd hc (h _)
    · refine (Any.strconv_Atoi_syntax_var Tryz.laysC172 (tx l) (by rw [tx_size]; omega) hc t1 p1 w e1).mono ?_
      rintro e w' ⟨N, rfl, _, _, hb⟩
      exact fin _ _ N w' hb
    · refine (Any.strconv_Atoi_range_var Tryz.laysC172 (tx l) (by rw [tx_size]; omega) hc t2 p2 w e2).mono ?_
      rintro e w' ⟨N, rfl, _, _, hb⟩
      exact fin _ _ N w' hb
    | [], hv => exact absurd hv.1 (by simp)
    | _ :: _ :: _, hv => exact absurd hv.1 (by simp)⟩
theorem FnK.low {P : Program} {f : FuncId} {K Kw : World → Prop} {args res : List DV} [hK : KHas Kw K] (h : FnK P f K args res) : FnK P f Kw args res := ⟨h.body, fun S w vs hw => h.run S w vs (hK.has w hw)⟩
theorem itoaK {Kw : World → Prop} [KHas Kw Tab] (n : Int) (h0 : -9223372036854775808 ≤ n) (h1 : n ≤ 9223372036854775807) : FnK Tryz.prog 88 Kw [.d (.v (.int .i64 n))] [.d (.v (.string (tx (Lib.itoa n))))] := (itoaF n h0 h1).low
/-- What holds of the world holds still, where nothing but new blocks has come. -/
theorem kFr {C : Cx} {Kw : World → Prop} [hs : KSt Kw] (h0 : Kw C.w0) (hm : C.m = []) : ∀ (σ : AS) (β : Nat → Value) (a : Act) (w : World), Inv C σ β a w → ∀ w', FrO (([] : List (Value × Rel)).map (·.1)) w w' → Kw w' := fun σ β a w hi w' hf =>
  hs.st _ _ (hs.st _ _ h0 ⟨hi.os, hi.tape, hi.output, hi.size, fun k hk => hi.fr k hk (by rintro ⟨_, h, _⟩; rw [hm] at h; cases h)⟩) ⟨hf.1, hf.2.1, hf.2.2.1, hf.2.2.2.1, fun b hb => hf.2.2.2.2 b hb (fun x hx => nomatch hx)⟩
end Go.Proofs.YtbbpecfapohlaaaGreatDoor
