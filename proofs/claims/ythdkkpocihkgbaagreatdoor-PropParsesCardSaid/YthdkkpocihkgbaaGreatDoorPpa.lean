import Derived.LaidMore
import Derived.Lay
import Derived.SevenTiedAt
import Derived.Stop.Joined
import Derived.LaidSub
import Derived.Stop.LaidErr
import Derived.Lib.LaidTab
import Derived.Test.YthdkkpocihkgbaaGreatDoorPpR
import Derived.Test.YthdkkpocihkgbaaGreatDoorCards
import Derived.Test.YthdkkpocihkgbaaGreatDoorTie
set_option maxRecDepth 100000
namespace Go.Proofs.YthdkkpocihkgbaaGreatDoor.pparses
open Go.RowKit Go.ChangeShapes Go.WideShapes Go.ChangeAt
theorem own:ownKnob Tryz.prog.godebug=none:=CQ
theorem laid:laidOutB Tryz.prog=true:=vv
instance instTab:KSt Tab:=⟨fun _ _ h hx=>Tab.ext h hx⟩
theorem cellK{w w':World}{b:Nat}{v:Value}(h:w.cell? ⟨b,0,none⟩=some v)(hx:bg w w'):w'.cell? ⟨b,0,none⟩=some v:=by
 have hb:b<w.heap.size:=by
  unfold World.cell? at h
  cases e:w.heap[b]? with
  | none=>simp[e]at h
  | some o=>exact (Array.getElem?_eq_some_iff.1 e).1
 exact (World.cell?_of_block (w:=w) (hx.block b hb)).trans h
instance instMax:KSt ig:=⟨fun _ _ ⟨m,h⟩ hx=>⟨m,cellK h hx⟩⟩
instance instA1{K T:World→Prop}:KHas (zy K T) K:=⟨fun _ h=>h.1⟩
instance instA2{K T:World→Prop}:KHas (zy K T) T:=⟨fun _ h=>h.2⟩
instance instA3{K T:World→Prop}[hK:KSt K][hT:KSt T]:KSt (zy K T):=⟨fun w w' h hx=>⟨hK.st w w' h.1 hx,hT.st w w' h.2 hx⟩⟩
theorem Eb{H:Type}{enc:TypeId×Value→H}{P:Program}{w:World}{base b0:Nat}{r:Reach}{spare:Nat→Bool}{held:Bool}{t:TypeId}{v:Value}{d:DataW H}{ps:List MemPlace}(ht:P.underlying t=some .string)(hval:Value.okWide P w r b0 t v)(hd:DataW.Trod enc P w base spare held t v d ps):∃ s l,v= .string s∧d= .lit (.string l)∧ps=[]:=by
 obtain⟨s,rfl⟩:=okWide_string ht hval;obtain⟨fuel,hf⟩:=hd;obtain⟨s',h,hx,hw⟩:=DataW.trod_string ht hf;simp[Value.cells]at h;subst h;simp only[Prod.mk.injEq]at hx;exact⟨s,_,rfl,hx.1,hx.2⟩
theorem tab{w:World}(h:laidMetH Tryz.prog Rows.propParsesRow.laid w):Tab w:=by
 have h1:=h.filter (fun x=>x.1== "internal/strconv.uint64pow10");have e:(Rows.propParsesRow.laid.filter fun x=>x.1== "internal/strconv.uint64pow10")=[("internal/strconv.uint64pow10",Lib.tabData .u64 Lib.pow10Tab)]:=by kernel_rfl
 rw[e,MakeChecks.laidMetH_plain _ _ _ (by kernel_rfl)]at h1;exact Lib.tabIs_of_head (g:=1) (t:=377) (e:=218) (n:=20) (by kernel_rfl) (by kernel_rfl) (by kernel_rfl) (by kernel_rfl) (by kernel_rfl) (by kernel_rfl) h1
theorem calls(a0:ByteArray)(a1:Int)(h1: -9223372036854775808≤a1∧a1≤9223372036854775807)(a2:Int)(h2: -9223372036854775808≤a2∧a2≤9223372036854775807)(v0 v1 v2:Value)(w:World)(hT:zy Tab ig w)(r0:RV (Lt w.heap.size) w v0 (.d (.v (.string a0))))(r1:RV (Lt w.heap.size) w v1 (.d (.v (.int .i64 a1))))(r2:RV (Lt w.heap.size) w v2 (.d (.v (.int .i64 a2)))):Calls Tryz.prog 11 #[v0,v1,v2] w fun e w'=>e= .returned (.bool true)∧bg w w':=by
 have _:=h2;refine((vd (Kw:=zy Tab ig) a0 a1 a2 h1).run (Lt w.heap.size) w [v0,v1,v2] hT (fun _ h=>h) ⟨rfl,fun i h _=>?_⟩).mono fun e w' ⟨u,h1,h2,h3⟩=>?_
 ·match i,h with
  | 0,_=>exact r0
  | 1,_=>exact r1
  | 2,_=>exact r2
 ·subst h1;exact⟨by rw[RA.val h3],h2⟩
theorem lifted(os:Os)(started:os.Started)(H:Type)(enc:TypeId×Value→H):
  ReturnsInHanded {} Tryz.checked os 11 .any (fun w args=>(Rows.propParsesSpec.pre enc Tryz.prog Tryz.f11 Rows.propParsesRow.domain false w args∧laidMetH Tryz.prog Rows.propParsesRow.laid w)∧sizedMet enc Tryz.prog Tryz.f11 (OpenSpec.ofChange Rows.propParsesSpec) false w args)
   (Rows.propParsesSpec.post enc Tryz.prog Tryz.f11 false true false false):=by
 refine vq (C:=Tryz.checked) (X:=fun w _=>laidMetH Tryz.prog Rows.propParsesRow.laid w) (fun _ _ _ hh h=>h.of_heap hh) own started (by kernel_rfl) Tryz.func11
  (ChangeSpec.witness_shaped (enc:=enc) (C:=Tryz.checked) (os:=os) (X:=fun w _=>laidMetH Tryz.prog Rows.propParsesRow.laid w) false (World.laidAll Tryz.prog os Rows.propParsesRow.laid) #[.string ⟨#[]⟩,.int .i64 0,.int .i64 0] 8 (World.laidAll_os _ _ _)
    (World.shaped_of_ZipB (by kernel_rfl) (by kernel_rfl)) (by kernel_rfl) (by kernel_rfl) (by kernel_rfl)
    (by rw[MakeChecks.laidMetH_plain _ _ _ (by kernel_rfl)];exact laidMet_laidAll _ (by kernel_rfl) (by kernel_rfl))) ?_
 intro W base args ds gs before hsh hval0 hW x1 x2 x3 x4;have hTab1:ig W:=vh hsh;have hTab2:Tab W:=by first | exact tab x1 | exact tab x2 | exact tab x3 | exact tab x4 | exact tab x2.2 | exact tab x1.2 | exact tab x3.2
 have hTab:zy Tab ig W:=⟨hTab2,hTab1⟩
 have hval:∀ (j:Nat) t v,Tryz.f11.params[j]?=some t→args[j]?=some v→Value.okWide Tryz.prog W .any base t v:=hval0;have hW':=hW;obtain⟨p,q,hA0,hV,rfl,hfz,hnd⟩:=hW;have hA:DataW.TrodAll enc Tryz.prog W 0 (fun _=>true) true Tryz.f11.params.toList args.toList ds p:=hA0;rw[Tryz.params11]at hA hval;obtain⟨v0,v1,v2,d0,d1,d2,p0,p1,p2,rfl,rfl,rfl,t0,t1,t2⟩:=trodAll_three hA;obtain⟨a1,rfl,rfl,e1,hw1⟩:=open_int Tryz.underlying3 (hval 1 3 v1 rfl rfl) t1;obtain⟨a2,rfl,rfl,e2,hw2⟩:=open_int Tryz.underlying3 (hval 2 3 v2 rfl rfl) t2;obtain⟨a0,l0,rfl,rfl,e0⟩:=Eb Tryz.underlying9 (hval 0 9 v0 rfl rfl) t0;refine(calls a0 a1 (xS hw1) a2 (xS hw2) _ _ _ W hTab (.v rfl) (.v rfl) (.v rfl)).mono fun e W' ⟨he,hb⟩=>?_;subst he;exact⟨_,rfl,zP laid (by decide+kernel) rfl Tryz.underlying4 rfl hW' hb rfl rfl rfl⟩
theorem yC:(Rows.propParsesRow.inPlace==(Tryz.prog).inPlace 11)=true:=by kernel_rfl
theorem tH:(Rows.propParsesRow.unfollowed==(Tryz.prog).unfollowed 11)=true:=by kernel_rfl
theorem xj:(Rows.propParsesRow.recurses==(Tryz.prog).recurses 11)=true:=by kernel_rfl
theorem Bp:(Rows.propParsesRow.named==(Tryz.prog).varsNamed 11)=true:=by kernel_rfl
theorem zZ:(Rows.propParsesRow.lifted==(Tryz.prog).liftsFinal)=true:=by kernel_rfl
theorem joined:joinedFacts Tryz.pinned.checked.prog 11 Tryz.f11 Rows.propParsesSpec Rows.propParsesRow=true:=by
 simp only[joinedFacts,Bool.and_eq_true];refine⟨⟨⟨⟨⟨⟨⟨⟨⟨⟨⟨⟨⟨⟨⟨⟨⟨⟨⟨⟨⟨⟨⟨⟨⟨⟨⟨⟨⟨⟨⟨?_,vv⟩,BB⟩,?_⟩,?_⟩,?_⟩,?_⟩,?_⟩,?_⟩,yC⟩,tH⟩,xj⟩,Bp⟩,?_⟩,?_⟩,?_⟩,?_⟩,?_⟩,?_⟩,?_⟩,?_⟩,?_⟩,?_⟩,?_⟩,zK⟩,zD⟩,zZ⟩,?_⟩,?_⟩,?_⟩,?_⟩,?_⟩
 all_goals kernel_rfl
theorem said:Rows.PropParsesSaid:=
 OpenClaim.holds_of_wide 11 Tryz.f11 rfl rfl rfl rfl rfl rfl rfl ⟨rfl,rfl,rfl,rfl,rfl⟩ rfl rfl rfl rfl rfl (by kernel_rfl) Tryz.func11 joined
  (of_decide_eq_true (by kernel_rfl)) (by unfold Func.isWrapper;first | (rw[if_pos (by decide+kernel)];kernel_rfl) | (rw[if_neg (by decide+kernel)];exact⟨rfl,rfl⟩))
  (fun os started H enc _=>lifted os started H enc)
theorem plain(f:FuncId)(fn:Func)(hf:Tryz.pinned.checked.prog.funcNamed "attest/attestlaw16.PropParses" =some f)(hfn:Tryz.pinned.checked.prog.funcs[f]?=some fn):
  true=Tryz.pinned.checked.prog.looks []∧∀ (j:Nat) t,fn.params[j]?=some t→Tryz.pinned.checked.prog.wantsStandIn t=false:=by
 obtain rfl:f=11:=Option.some.inj ((show Tryz.prog.funcNamed "attest/attestlaw16.PropParses" =some 11 by kernel_rfl).symm.trans hf)|>.symm;obtain rfl:fn=Tryz.f11:=(Option.some.inj (Tryz.func11.symm.trans hfn)).symm;refine⟨by kernel_rfl,fun j t ht=>?_⟩;rw[Tryz.params11]at ht;have hm:t∈[9,3,3]:=by simpa using Array.mem_of_getElem? ht
 have hall:([9,3,3].all fun u=>!Tryz.prog.wantsStandIn u)=true:=by kernel_rfl
 exact(show Tryz.prog.wantsStandIn t=false by simpa using List.all_eq_true.1 hall t hm)
theorem card:Rows.PropParsesCardSaid:=
 Claim7.holds_tied_plain_at .later [] _ _ _ _ said (fun _ h=>by cases h) (by kernel_rfl) (fun _ h=>by cases h) propParses_row_tie rfl ⟨rfl,rfl⟩ (by kernel_rfl) rfl plain (by kernel_rfl)
