import Derived.Shelf.LaysM
import Derived.Shelf.Strconv.Itoa3
import Derived.Lib.AppendIntMem
import Derived.Lib.ItoaLen
import Derived.Test.YthdkkpocihkgbaaGreatDoorPrE
import Derived.Test.YthdkkpocihkgbaaGreatDoorPrJ
import Derived.Test.YthdkkpocihkgbaaGreatDoorDigA
set_option maxRecDepth 100000
set_option maxHeartbeats 2000000
namespace Go.Proofs
open Go.Shelf
def Tryz.laysM171_ren:Go.Shelf.Ren:=⟨fun | 171=>99 | 243=>157 | 246=>203 | 283=>236 | 284=>237 | 285=>238 | 286=>239 | 129=>261 | 317=>260 | 318=>262 | 319=>263 | 320=>264 | 337=>279 | 338=>280 | n=>n,fun | 3=>3 | 9=>9 | 2=>2 | 4=>4 | 171=>356 | 0=>0 | 53=>218 | 37=>270 | 5=>5 | 173=>359 | 212=>377 | 51=>229 | 20=>20 | 213=>378 | 46=>287 | 232=>403 | 233=>404 | n=>n,fun | 17=>1 | 18=>6 | 19=>7 | n=>n⟩
theorem Tryz.laysM171:Go.Proofs.LaysM.n171 Tryz.prog Tryz.laysM171_ren:={
 mixed:=by kernel_rfl
 f129:=Tryz.func261.trans (congrArg some (by kernel_rfl))
 f171:=Tryz.func99.trans (congrArg some (by kernel_rfl))
 f243:=Tryz.func157.trans (congrArg some (by kernel_rfl))
 f246:=Tryz.func203.trans (congrArg some (by kernel_rfl))
 f283:=Tryz.func236.trans (congrArg some (by kernel_rfl))
 f284:=Tryz.func237.trans (congrArg some (by kernel_rfl))
 f285:=Tryz.func238.trans (congrArg some (by kernel_rfl))
 f286:=Tryz.func239.trans (congrArg some (by kernel_rfl))
 f317:=Tryz.func260.trans (congrArg some (by kernel_rfl))
 f318:=Tryz.func262.trans (congrArg some (by kernel_rfl))
 f319:=Tryz.func263.trans (congrArg some (by kernel_rfl))
 f320:=Tryz.func264.trans (congrArg some (by kernel_rfl))
 f337:=Tryz.func279.trans (congrArg some (by kernel_rfl))
 f338:=Tryz.func280.trans (congrArg some (by kernel_rfl))
 t0:=Tryz.underlying0
 a0:=Tryz.isAgg0
 z0:=Tryz.sizeOf0
 v0:=Tryz.zeroValue0
 t2:=Tryz.underlying2
 a2:=Tryz.isAgg2
 z2:=Tryz.sizeOf2
 v2:=Tryz.zeroValue2
 t3:=Tryz.underlying3
 a3:=Tryz.isAgg3
 z3:=Tryz.sizeOf3
 v3:=Tryz.zeroValue3
 t4:=Tryz.underlying4
 a4:=Tryz.isAgg4
 z4:=Tryz.sizeOf4
 v4:=Tryz.zeroValue4
 t5:=Tryz.underlying5
 a5:=Tryz.isAgg5
 z5:=Tryz.sizeOf5
 v5:=Tryz.zeroValue5
 t9:=Tryz.underlying9
 a9:=Tryz.isAgg9
 z9:=Tryz.sizeOf9
 v9:=Tryz.zeroValue9
 t20:=Tryz.underlying20
 a20:=Tryz.isAgg20
 z20:=Tryz.sizeOf20
 v20:=Tryz.zeroValue20
 t37:=Tryz.underlying270
 a37:=Tryz.isAgg270
 z37:=Tryz.sizeOf270
 v37:=Tryz.zeroValue270
 t46:=Tryz.underlying287
 a46:=Tryz.isAgg287
 z46:=Tryz.sizeOf287
 v46:=Tryz.zeroValue287
 t51:=Tryz.underlying229
 a51:=Tryz.isAgg229
 z51:=Tryz.sizeOf229
 v51:=Tryz.zeroValue229
 t53:=Tryz.underlying218
 a53:=Tryz.isAgg218
 z53:=Tryz.sizeOf218
 v53:=Tryz.zeroValue218
 t171:=Tryz.underlying356
 a171:=Tryz.isAgg356
 z171:=Tryz.sizeOf356
 v171:=Tryz.zeroValue356
 t173:=Tryz.underlying359
 a173:=Tryz.isAgg359
 z173:=Tryz.sizeOf359
 v173:=Tryz.zeroValue359
 t212:=Tryz.underlying377
 a212:=Tryz.isAgg377
 z212:=Tryz.sizeOf377
 v212:=Tryz.zeroValue377
 t213:=Tryz.underlying378
 a213:=Tryz.isAgg378
 z213:=Tryz.sizeOf378
 t232:=Tryz.underlying403
 a232:=Tryz.isAgg403
 z232:=Tryz.sizeOf403
 v232:=Tryz.zeroValue403
 t233:=Tryz.underlying404
 a233:=Tryz.isAgg404
 z233:=Tryz.sizeOf404
 v233:=Tryz.zeroValue404
 g17:=by kernel_rfl
 g18:=by kernel_rfl
 g19:=by kernel_rfl
 i0:=by kernel_rfl
 i2:=by kernel_rfl
 i3:=by kernel_rfl
 i4:=by kernel_rfl
 i5:=by kernel_rfl
 i9:=by kernel_rfl
 i20:=by kernel_rfl
 i37:=by kernel_rfl
 i46:=by kernel_rfl
 i51:=by kernel_rfl
 i53:=by kernel_rfl
 i171:=by kernel_rfl
 i173:=by kernel_rfl
 i212:=by kernel_rfl
 i232:=by kernel_rfl
 i233:=by kernel_rfl
 m17:=by kernel_rfl
 m18:=by kernel_rfl
 m19:=by kernel_rfl }
open Go.RowKit Go.Sort Go.Lib in
theorem Tryz.strconv_Itoa(n:Int)(h0: -9223372036854775808≤n)(h1:n≤9223372036854775807)(w:World)(htab:Lib.TabIs Tryz.prog w "internal/strconv.uint64pow10" .u64 Lib.pow10Tab):
  Calls Tryz.prog 99 #[.int .i64 n] w fun e w'=>e= .returned (.string ⟨(Lib.itoa n).toArray⟩)∧∃ k os,w'=grow (w.drewN k) os:=Any.strconv_Itoa Tryz.laysM171 n h0 h1 w htab
end Go.Proofs
namespace Go.Proofs.YthdkkpocihkgbaaGreatDoor
open Go.RowKit
def Tab(w:World):Prop:=Lib.TabIs Tryz.prog w "internal/strconv.uint64pow10" .u64 Lib.pow10Tab
theorem Tab.ext{w w':World}(h:Tab w)(hx:bg w w'):Tab w':=Lib.tabBelow_of_tabIs h w' hx
instance:KSt Tab:=⟨fun _ _ h hx=>Tab.ext h hx⟩
theorem Ay(n:Int)(h0: -9223372036854775808≤n)(h1:n≤9223372036854775807):FnK Tryz.prog 99 Tab [.d (.v (.int .i64 n))] [.d (.v (.string (tx (Lib.itoa n))))]:=
 ⟨⟨_,Tryz.func99,by kernel_rfl,by kernel_rfl⟩,fun S w vs hK hS hv=>by
   obtain⟨u,rfl,ha⟩:=hv.one;have ha:RD S w u (.v (.int .i64 n)):=ha;cases ha;refine(Tryz.strconv_Itoa n h0 h1 w hK).mono ?_;rintro e w' ⟨rfl,k,os,rfl⟩;exact⟨_,rfl,Lib.below_grow _ _ (Nat.le_refl _) k os,(RD.v rfl:RD _ _ _ _)⟩⟩
end Go.Proofs.YthdkkpocihkgbaaGreatDoor
namespace Go.Proofs.YthdkkpocihkgbaaGreatDoor
open Go.RowKit
attribute [local irreducible] AC Do St
theorem BN(s:ST):(aq s).length=3:=rfl
def aG(s:ST):List UInt8×List ST:=match s with
 | .mk true _ _=>([],[])
 | .mk false _ []=>([],[])
 | .mk false _ (h::t)=>if h.b=true then(h.w,t)else([],[])
theorem mH(s:ST):Fn Tryz.prog 91 [.g (aq s)] [.d (.v (.string (tx (aG s).1))),.d (.l ((aG s).2.map aq))]:=by
 obtain⟨b,w,l⟩:=s;rw[bE];cases b with
 | true=>
   refine Fn.of Tryz.func91 rfl (by kernel_rfl) Tryz.ntmps91 Tryz.results91 rfl fun w0 S0=>?_;refine wk ?_;exact⟨.d rfl (.inl rfl),.d rfl (.inr rfl),trivial⟩
 | false=>
 cases l with
 | nil=>
   have e0:([]:List ST).length=0:=rfl;refine Fn.of Tryz.func91 rfl (by kernel_rfl) Tryz.ntmps91 Tryz.results91 rfl fun w0 S0=>?_;refine wk ?_;exact⟨.d rfl (.inl rfl),.d rfl (.inr rfl),trivial⟩
 | cons h t=>
 have hl:(h::t).length=t.length+1:=List.length_cons ..;have hg:(h::t)[0]?=some h:=rfl;obtain⟨hb,hw,hll⟩:=h;cases hb with
 | false=>
   refine Fn.of Tryz.func91 rfl (by kernel_rfl) Tryz.ntmps91 Tryz.results91 rfl fun w0 S0=>?_;refine wk ?_;exact⟨.d rfl (.inl rfl),.d rfl (.inr rfl),trivial⟩
 | true=>
   have htl:(t.map aq).length=t.length:=List.length_map ..;refine Fn.of Tryz.func91 rfl (by kernel_rfl) Tryz.ntmps91 Tryz.results91 rfl fun w0 S0=>?_;refine wk ?_;((try (first | intro K ms hms hK | intro K hK));(first | apply Ch.go | apply Ch.ah);exact rfl;exact rfl;exact Loc.cC 1 rfl rfl rfl rfl (by simp) (by simp[BN]));refine wk ?_;exact⟨.d rfl (.inl rfl),.d rfl (.inl rfl),trivial⟩
theorem kq{k:Nat}(q:Rat)(h:Bd k q)(hk:k≤100000000):Fn Tryz.prog 88 [.g (aN q)] [.g (aq (.mk true (cr q) []))]:=by
 have h1:=C6 h hk;have h2:=eA (cr q);rw[bE]at h2 ⊢;refine Fn.of Tryz.func88 rfl (by kernel_rfl) Tryz.ntmps88 Tryz.results88 rfl fun w0 S0=>?_;refine wk ?_;refine c1 h1 ?_;refine wk ?_;refine c1 h2 ?_;refine wk ?_;exact⟨.cn rfl rfl inferInstance rfl ⟨.inl rfl,.inl rfl,.inl rfl,trivial⟩,trivial⟩
def lE(v i:Int):List UInt8:=if v<i then 120::Lib.itoa v else 121::Lib.itoa (v-i)
theorem ze(v i:Int)(hv:0≤v∧v≤1000000)(hi:0≤i∧i≤1000000):FnK Tryz.prog 194 Tab [.d (.v (.int .i64 v)),.d (.v (.int .i64 i))] [.g (aq (.mk true (lE v i) []))]:=by
 unfold lE;by_cases h:v<i
 ·rw[if_pos h];have h1:=Ay v (by omega) (by omega);have h2:=eA (120::Lib.itoa v);have hl:=Lib.itoa_length_le v (by omega) (by omega);rw[bE]at h2 ⊢;refine FnK.of Tryz.func194 rfl (by kernel_rfl) Tryz.ntmps194 Tryz.results194 rfl fun w0 S0 hK0=>?_;refine wk ?_;refine c1 h1 ?_;((try (first | intro K ms hms hK | intro K hK));(first | apply Ch.go | apply Ch.ah);exact rfl;exact rfl;exact Loc.lb (s:=tx [120]) rfl rfl rfl (by show 1+(Lib.itoa v).length≤_;omega));rw[kL];refine wk ?_;refine c1 h2 ?_;refine wk ?_;exact⟨.cn rfl rfl inferInstance rfl ⟨.inl rfl,.inl rfl,.inl rfl,trivial⟩,trivial⟩
 ·rw[if_neg h];have h1:=Ay (v-i) (by omega) (by omega);have h2:=eA (121::Lib.itoa (v-i));have hl:=Lib.itoa_length_le (v-i) (by omega) (by omega);rw[bE]at h2 ⊢;refine FnK.of Tryz.func194 rfl (by kernel_rfl) Tryz.ntmps194 Tryz.results194 rfl fun w0 S0 hK0=>?_;refine wk ?_;refine c1 h1 ?_;((try (first | intro K ms hms hK | intro K hK));(first | apply Ch.go | apply Ch.ah);exact rfl;exact rfl;exact Loc.lb (s:=tx [121]) rfl rfl rfl (by show 1+(Lib.itoa (v-i)).length≤_;omega));rw[kL];refine wk ?_;refine c1 h2 ?_;refine wk ?_;exact⟨.cn rfl rfl inferInstance rfl ⟨.inl rfl,.inl rfl,.inl rfl,trivial⟩,trivial⟩
theorem oO(s:List ST)(hl:s.length≤1000000):Fn Tryz.prog 87 [.d (.l (s.map aq))] [.g (aq (.mk false [] s))]:=by
 rw[bE];have hml:(s.map aq).length=s.length:=List.length_map ..;refine Fn.of Tryz.func87 rfl (by kernel_rfl) Tryz.ntmps87 Tryz.results87 rfl fun w0 S0=>?_;refine wk ?_;((try (first | intro K ms hms hK | intro K hK));(first | apply Ch.ef | apply Ch.bU);exact rfl;exact rfl;exact Do.wt rfl rfl rfl rfl (by intro y hy;obtain⟨t,_,rfl⟩:=List.mem_map.1 hy;rfl) (by rw[hml];omega);exact rfl;exact rfl);refine Ch.br 4 rfl rfl ?_;refine wk ?_;exact⟨.cn rfl rfl inferInstance rfl ⟨.inl rfl,.inl rfl,.inl rfl,trivial⟩,trivial⟩
