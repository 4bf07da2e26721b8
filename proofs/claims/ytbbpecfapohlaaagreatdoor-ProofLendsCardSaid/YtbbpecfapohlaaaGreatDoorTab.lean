import Derived.Shelf.LaysM
import Derived.Shelf.Strconv.Itoa3
import Derived.Lib.AppendIntMem
import Derived.Lib.ItoaLen
import Derived.Test.YtbbpecfapohlaaaGreatDoorTb
import Derived.Test.YtbbpecfapohlaaaGreatDoorAtm
import Derived.Test.YtbbpecfapohlaaaGreatDoorProg
import Derived.Test.YtbbpecfapohlaaaGreatDoorBr
namespace Go.Proofs.YtbbpecfapohlaaaGreatDoor
open Go.RowKit
section
variable {H:Type}{enc:TypeId×Value→H}{W:World}
theorem qU32{ds:List D}(h:QInt .u32 ds):QOf (fun c:Nat=>[.v (encU c)]) (fun c=>c<4294967296) ds:=by
 obtain⟨n,rfl,h1,h2⟩:=h;simp[IntKind.min,IntKind.max,IntKind.signed,IntKind.bits]at h1 h2;exact⟨n.toNat,by unfold encU;simp only;rw[Int.toNat_of_nonneg h1],by omega⟩
theorem qN{ds:List D}(h:QAll [QBool,QList (QInt .u32),QList (QInt .u32)] ds):QOf enN okN ds:=by
 obtain⟨a,b,c,rfl,⟨n,rfl⟩,hb,hc⟩:=h.three;obtain⟨l,rfl,hl,_⟩:=QList.of (fun _=>qU32) hb;obtain⟨m,rfl,hm,_⟩:=QList.of (fun _=>qU32) hc;exact⟨(n,l,m),rfl,hl,hm⟩
theorem odU(m:Nat):OD enc Tryz.prog W m 225 (QInt .u32):=OD.int (by kernel_rfl) m
theorem odI(m:Nat):OD enc Tryz.prog W m 3 (QInt .i64):=OD.int (by kernel_rfl) m
theorem odUs(m:Nat):OD enc Tryz.prog W m 102 (QList (QInt .u32)):=by
 cases m with
 | zero=>intro n hn;omega
 | succ m=>exact OD.slice (by kernel_rfl) (k:=0) (by kernel_rfl) (odU m)
theorem odN(m:Nat):OD enc Tryz.prog W m 112 (QOf enN okN):=by
 cases m with
 | zero=>intro n hn;omega
 | succ m=>exact(OD.fields (l:=[(4,0),(102,1),(102,2)]) (Qs:=[QBool,QList (QInt .u32),QList (QInt .u32)]) (by kernel_rfl) (by kernel_rfl) ⟨OD.bool (by kernel_rfl) m,odUs m,odUs m,trivial⟩).imp fun _=>qN
theorem odT(m:Nat):OD enc Tryz.prog W m 281 (QOf enTN fun x=>okN x.2∧ -9223372036854775808≤x.1∧x.1≤9223372036854775807):=by
 cases m with
 | zero=>intro n hn;omega
 | succ m=>
   refine(OD.fields (l:=[(3,0),(112,1)]) (Qs:=[QInt .i64,QOf enN okN]) (by kernel_rfl) (by kernel_rfl) ⟨odI m,odN m,trivial⟩).imp fun ds h=>?_;obtain⟨a,b,rfl,⟨v,rfl,h1,h2⟩,n,rfl,hn⟩:=h.two;exact⟨(v,n),rfl,hn,h1,h2⟩
theorem odE(m:Nat):OD enc Tryz.prog W m 114 (QOf enEN okEN):=by
 rcases m with _ | _ | m
 ·intro n hn;omega
 ·intro n hn cs d ps h;obtain rfl:n=0:=by omega
  simp[DataW.trod]at h
 ·refine(OD.fields (l:=[(110,0),(112,1)]) (Qs:=[QList (QOf enTN fun x=>okN x.2∧ -9223372036854775808≤x.1∧x.1≤9223372036854775807),QOf enN okN]) (by kernel_rfl) (by kernel_rfl) ⟨OD.slice (by kernel_rfl) (k:=3) (by kernel_rfl) (odT m),odN (m+1),trivial⟩).imp fun ds h=>?_;obtain⟨a,b,rfl,ha,n,rfl,hn⟩:=h.two;obtain⟨l,rfl,hl,hm⟩:=QList.of (fun _ h=>h) ha;exact⟨⟨l,n⟩,rfl,hl,hn,hm⟩
theorem odA(m:Nat):OD enc Tryz.prog W m 116 (QOf enAN fun a=>okEN a.e∧ -9223372036854775808≤a.op∧a.op≤9223372036854775807):=by
 cases m with
 | zero=>intro n hn;omega
 | succ m=>
   refine(OD.fields (l:=[(114,0),(3,4)]) (Qs:=[QOf enEN okEN,QInt .i64]) (by kernel_rfl) (by kernel_rfl) ⟨odE m,odI m,trivial⟩).imp fun ds h=>?_;obtain⟨a,b,rfl,⟨e,rfl,he⟩,v,rfl,h1,h2⟩:=h.two;exact⟨⟨e,v⟩,rfl,he,h1,h2⟩
theorem odNs(m:Nat):OD enc Tryz.prog W m 48 (QList (QOf enN okN)):=by
 cases m with
 | zero=>intro n hn;omega
 | succ m=>exact OD.slice (by kernel_rfl) (k:=2) (by kernel_rfl) (odN m)
end
end Go.Proofs.YtbbpecfapohlaaaGreatDoor
namespace Go.Proofs
open Go.Shelf
def Tryz.laysM171_ren:Go.Shelf.Ren:=⟨fun | 171=>88 | 243=>155 | 246=>224 | 283=>255 | 284=>256 | 285=>257 | 286=>258 | 129=>269 | 317=>290 | 318=>291 | 319=>292 | 320=>293 | 337=>312 | 338=>313 | n=>n,fun | 3=>3 | 9=>9 | 2=>2 | 4=>4 | 171=>341 | 0=>0 | 53=>218 | 37=>196 | 5=>5 | 173=>344 | 212=>379 | 51=>225 | 20=>20 | 213=>380 | 46=>301 | 232=>414 | 233=>415 | n=>n,fun | 17=>0 | 18=>4 | 19=>5 | n=>n⟩
theorem Tryz.laysM171:Go.Proofs.LaysM.n171 Tryz.prog Tryz.laysM171_ren:={
 mixed:=by kernel_rfl
 f129:=Tryz.func269.trans (congrArg some (by kernel_rfl))
 f171:=Tryz.func88.trans (congrArg some (by kernel_rfl))
 f243:=Tryz.func155.trans (congrArg some (by kernel_rfl))
 f246:=Tryz.func224.trans (congrArg some (by kernel_rfl))
 f283:=Tryz.func255.trans (congrArg some (by kernel_rfl))
 f284:=Tryz.func256.trans (congrArg some (by kernel_rfl))
 f285:=Tryz.func257.trans (congrArg some (by kernel_rfl))
 f286:=Tryz.func258.trans (congrArg some (by kernel_rfl))
 f317:=Tryz.func290.trans (congrArg some (by kernel_rfl))
 f318:=Tryz.func291.trans (congrArg some (by kernel_rfl))
 f319:=Tryz.func292.trans (congrArg some (by kernel_rfl))
 f320:=Tryz.func293.trans (congrArg some (by kernel_rfl))
 f337:=Tryz.func312.trans (congrArg some (by kernel_rfl))
 f338:=Tryz.func313.trans (congrArg some (by kernel_rfl))
 t0:=Tryz.underlying0
 a0:=Tryz.isAgg0
 z0:=Tryz.sizeOf0
 v0:=Tryz.zeroValue0
 t2:=Tryz.underlying2
 a2:=Tryz.isAgg2
 z2:=Tryz.sizeOf2
 v2:=Tryz.zeroValue2
 t3:=Tryz.underlying3
 a3:=Tryz.isAgg3
 z3:=Tryz.sizeOf3
 v3:=Tryz.zeroValue3
 t4:=Tryz.underlying4
 a4:=Tryz.isAgg4
 z4:=Tryz.sizeOf4
 v4:=Tryz.zeroValue4
 t5:=Tryz.underlying5
 a5:=Tryz.isAgg5
 z5:=Tryz.sizeOf5
 v5:=Tryz.zeroValue5
 t9:=Tryz.underlying9
 a9:=Tryz.isAgg9
 z9:=Tryz.sizeOf9
 v9:=Tryz.zeroValue9
 t20:=Tryz.underlying20
 a20:=Tryz.isAgg20
 z20:=Tryz.sizeOf20
 v20:=Tryz.zeroValue20
 t37:=Tryz.underlying196
 a37:=Tryz.isAgg196
 z37:=Tryz.sizeOf196
 v37:=Tryz.zeroValue196
 t46:=Tryz.underlying301
 a46:=Tryz.isAgg301
 z46:=Tryz.sizeOf301
 v46:=Tryz.zeroValue301
 t51:=Tryz.underlying225
 a51:=Tryz.isAgg225
 z51:=Tryz.sizeOf225
 v51:=Tryz.zeroValue225
 t53:=Tryz.underlying218
 a53:=Tryz.isAgg218
 z53:=Tryz.sizeOf218
 v53:=Tryz.zeroValue218
 t171:=Tryz.underlying341
 a171:=Tryz.isAgg341
 z171:=Tryz.sizeOf341
 v171:=Tryz.zeroValue341
 t173:=Tryz.underlying344
 a173:=Tryz.isAgg344
 z173:=Tryz.sizeOf344
 v173:=Tryz.zeroValue344
 t212:=Tryz.underlying379
 a212:=Tryz.isAgg379
 z212:=Tryz.sizeOf379
 v212:=Tryz.zeroValue379
 t213:=Tryz.underlying380
 a213:=Tryz.isAgg380
 z213:=Tryz.sizeOf380
 t232:=Tryz.underlying414
 a232:=Tryz.isAgg414
 z232:=Tryz.sizeOf414
 v232:=Tryz.zeroValue414
 t233:=Tryz.underlying415
 a233:=Tryz.isAgg415
 z233:=Tryz.sizeOf415
 v233:=Tryz.zeroValue415
 g17:=by kernel_rfl
 g18:=by kernel_rfl
 g19:=by kernel_rfl
 i0:=by kernel_rfl
 i2:=by kernel_rfl
 i3:=by kernel_rfl
 i4:=by kernel_rfl
 i5:=by kernel_rfl
 i9:=by kernel_rfl
 i20:=by kernel_rfl
 i37:=by kernel_rfl
 i46:=by kernel_rfl
 i51:=by kernel_rfl
 i53:=by kernel_rfl
 i171:=by kernel_rfl
 i173:=by kernel_rfl
 i212:=by kernel_rfl
 i232:=by kernel_rfl
 i233:=by kernel_rfl
 m17:=by kernel_rfl
 m18:=by kernel_rfl
 m19:=by kernel_rfl }
open Go.RowKit Go.Sort Go.Lib in
theorem Tryz.strconv_Itoa(n:Int)(h0: -9223372036854775808≤n)(h1:n≤9223372036854775807)(w:World)(htab:Lib.TabIs Tryz.prog w "internal/strconv.uint64pow10" .u64 Lib.pow10Tab):
  Calls Tryz.prog 88 #[.int .i64 n] w fun e w'=>e= .returned (.string ⟨(Lib.itoa n).toArray⟩)∧∃ k os,w'=grow (w.drewN k) os:=Any.strconv_Itoa Tryz.laysM171 n h0 h1 w htab
end Go.Proofs
namespace Go.Proofs.YtbbpecfapohlaaaGreatDoor
open Go.RowKit
def Tab(w:World):Prop:=Lib.TabIs Tryz.prog w "internal/strconv.uint64pow10" .u64 Lib.pow10Tab
theorem Tab.ext{w w':World}(h:Tab w)(hx:Ext w w'):Tab w':=Lib.tabBelow_of_tabIs h w' hx
instance:KSt Tab:=⟨fun _ _ h hx=>Tab.ext h hx⟩
theorem itoaF(n:Int)(h0: -9223372036854775808≤n)(h1:n≤9223372036854775807):FnK Tryz.prog 88 Tab [.d (.v (.int .i64 n))] [.d (.v (.string (tx (Lib.itoa n))))]:=
 ⟨⟨_,Tryz.func88,by kernel_rfl,by kernel_rfl⟩,fun S w vs hK hS hv=>by
   obtain⟨u,rfl,ha⟩:=hv.one;have ha:RD S w u (.v (.int .i64 n)):=ha;cases ha;refine(Tryz.strconv_Itoa n h0 h1 w hK).mono ?_;rintro e w' ⟨rfl,k,os,rfl⟩;exact⟨_,rfl,Lib.below_grow _ _ (Nat.le_refl _) k os,(RD.v rfl:RD _ _ _ _)⟩⟩
end Go.Proofs.YtbbpecfapohlaaaGreatDoor
