import Derived.LaidMore
import Derived.Lay
import Derived.SevenTiedAt
import Derived.Stop.Joined
import Derived.LaidSub
import Derived.Stop.LaidErr
import Derived.Lib.LaidTab
import Derived.Test.YtbbpecfapohlaaaGreatDoorLaw
import Derived.Test.YtbbpecfapohlaaaGreatDoorOpen
import Derived.Test.YtbbpecfapohlaaaGreatDoorOpA
import Derived.Test.YtbbpecfapohlaaaGreatDoorPqC
import Derived.Test.YtbbpecfapohlaaaGreatDoorCards
import Derived.Test.YtbbpecfapohlaaaGreatDoorTie
set_option maxRecDepth 100000
namespace Go.Proofs.YtbbpecfapohlaaaGreatDoor.pflends
open Go.RowKit Go.ChangeShapes Go.WideShapes Go.ChangeAt
theorem own:ownKnob Tryz.prog.godebug=none:=pf_own
theorem laid:laidOutB Tryz.prog=true:=pf_laid
instance instTab:KSt Tab:=⟨fun _ _ h hx=>Tab.ext h hx⟩
theorem tab{w:World}(h:laidMetH Tryz.prog Rows.proofLendsRow.laid w):Tab w:=by
 have h1:=h.filter (fun x=>x.1== "internal/strconv.uint64pow10");have e:(Rows.proofLendsRow.laid.filter fun x=>x.1== "internal/strconv.uint64pow10")=[("internal/strconv.uint64pow10",Lib.tabData .u64 Lib.pow10Tab)]:=by kernel_rfl
 rw[e,MakeChecks.laidMetH_plain _ _ _ (by kernel_rfl)]at h1;exact Lib.tabIs_of_head (g:=0) (t:=379) (e:=218) (n:=20) (by kernel_rfl) (by kernel_rfl) (by kernel_rfl) (by kernel_rfl) (by kernel_rfl) (by kernel_rfl) h1
theorem calls(a0:PN)(h0:okPN a0)(a1:List SN)(h1:∀ x∈a1,okSA x)(k1:a1.length≤9223372036854775807)(v0 v1:Value)(w:World)(hT:And2 Tab MaxL w)(r0:RV (Lt w.heap.size) w v0 (.g (enPN a0)))(r1:RV (Lt w.heap.size) w v1 (.d (.l (a1.map enSN)))):Calls Tryz.prog 5 #[v0,v1] w fun e w'=>e= .returned (.bool true)∧Ext w w':=by
 have _:=k1;refine((proofLendsF (Kw:=And2 Tab MaxL) a0 h0 a1 h1).run (Lt w.heap.size) w [v0,v1] hT (fun _ h=>h) ⟨rfl,fun i h _=>?_⟩).mono fun e w' ⟨u,h1,h2,h3⟩=>?_
 ·match i,h with
  | 0,_=>exact r0
  | 1,_=>exact r1
 ·subst h1;exact⟨by rw[RA.val h3],h2⟩
theorem lifted(os:Os)(started:os.Started)(H:Type)(enc:TypeId×Value→H):
  ReturnsInHanded {} Tryz.checked os 5 .any (fun w args=>(Rows.proofLendsSpec.pre enc Tryz.prog Tryz.f5 Rows.proofLendsRow.domain false w args∧laidMetH Tryz.prog Rows.proofLendsRow.laid w)∧sizedMet enc Tryz.prog Tryz.f5 (OpenSpec.ofChange Rows.proofLendsSpec) false w args)
   (Rows.proofLendsSpec.post enc Tryz.prog Tryz.f5 false true false false):=by
 refine handed_both (C:=Tryz.checked) (X:=fun w _=>laidMetH Tryz.prog Rows.proofLendsRow.laid w) (fun _ _ _ hh h=>h.of_heap hh) own started (by kernel_rfl) Tryz.func5
  (ChangeSpec.witness_shaped (enc:=enc) (C:=Tryz.checked) (os:=os) (X:=fun w _=>laidMetH Tryz.prog Rows.proofLendsRow.laid w) false (World.laidAll Tryz.prog os Rows.proofLendsRow.laid) #[.agg #[.int .i64 0,.int .i64 0,.slice none 0 0,.slice none 0 0],.slice none 0 0] 8 (World.laidAll_os _ _ _)
    (World.shaped_of_ZipB (by kernel_rfl) (by kernel_rfl)) (by kernel_rfl) (by kernel_rfl) (by kernel_rfl)
    (by rw[MakeChecks.laidMetH_plain _ _ _ (by kernel_rfl)];exact laidMet_laidAll _ (by kernel_rfl) (by kernel_rfl))) ?_
 intro W base args ds gs before hsh hval0 hW x1 x2 x3 x4;have hTab1:MaxL W:=maxL_shaped hsh;have hTab2:Tab W:=by first | exact tab x1 | exact tab x2 | exact tab x3 | exact tab x4 | exact tab x2.2 | exact tab x1.2 | exact tab x3.2
 have hTab:And2 Tab MaxL W:=⟨hTab2,hTab1⟩
 have hval:∀ (j:Nat) t v,Tryz.f5.params[j]?=some t→args[j]?=some v→Value.okWide Tryz.prog W .any base t v:=hval0;have hW':=hW;obtain⟨p,q,hA0,hV,rfl,hfz,hnd⟩:=hW;have hA:DataW.TrodAll enc Tryz.prog W 0 (fun _=>true) true Tryz.f5.params.toList args.toList ds p:=hA0;rw[Tryz.params5]at hA hval;obtain⟨v0,v1,d0,d1,p0,p1,rfl,rfl,rfl,t0,t1⟩:=trodAll_two hA;obtain⟨ds0,r0,a0,rfl,h0⟩:=RV.ofTrod Tryz.underlying25 (hval 0 25 v0 rfl rfl) t0 odPN;obtain⟨xs1,r1,q1⟩:=RV.ofTrodL Tryz.underlying26 (hval 1 26 v1 rfl rfl) t1 odSA;obtain⟨a1,hpt1,h1,k1⟩:=QList.of (fun _ h=>h) q1;simp only[List.cons.injEq,D.l.injEq,and_true]at hpt1;subst hpt1;refine(calls a0 h0 a1 h1 k1 _ _ W hTab r0 r1).mono fun e W' ⟨he,hb⟩=>?_;subst he;exact⟨_,rfl,law_post laid (by decide+kernel) rfl Tryz.underlying4 rfl hW' hb rfl rfl rfl⟩
theorem j_inPlace:(Rows.proofLendsRow.inPlace==(Tryz.prog).inPlace 5)=true:=by kernel_rfl
theorem j_unfollowed:(Rows.proofLendsRow.unfollowed==(Tryz.prog).unfollowed 5)=true:=by kernel_rfl
theorem j_recurses:(Rows.proofLendsRow.recurses==(Tryz.prog).recurses 5)=true:=by kernel_rfl
theorem j_named:(Rows.proofLendsRow.named==(Tryz.prog).varsNamed 5)=true:=by kernel_rfl
theorem j_lifted:(Rows.proofLendsRow.lifted==(Tryz.prog).liftsFinal)=true:=by kernel_rfl
theorem joined:joinedFacts Tryz.pinned.checked.prog 5 Tryz.f5 Rows.proofLendsSpec Rows.proofLendsRow=true:=by
 simp only[joinedFacts,Bool.and_eq_true];refine⟨⟨⟨⟨⟨⟨⟨⟨⟨⟨⟨⟨⟨⟨⟨⟨⟨⟨⟨⟨⟨⟨⟨⟨⟨⟨⟨⟨⟨⟨⟨?_,pf_laid⟩,pf_maps⟩,?_⟩,?_⟩,?_⟩,?_⟩,?_⟩,?_⟩,j_inPlace⟩,j_unfollowed⟩,j_recurses⟩,j_named⟩,?_⟩,?_⟩,?_⟩,?_⟩,?_⟩,?_⟩,?_⟩,?_⟩,?_⟩,?_⟩,?_⟩,pf_heard⟩,pf_enter⟩,j_lifted⟩,?_⟩,?_⟩,?_⟩,?_⟩,?_⟩
 all_goals kernel_rfl
theorem said:Rows.ProofLendsSaid:=
 OpenClaim.holds_of_wide 5 Tryz.f5 rfl rfl rfl rfl rfl rfl rfl ⟨rfl,rfl,rfl,rfl,rfl⟩ rfl rfl rfl rfl rfl (by kernel_rfl) Tryz.func5 joined
  (of_decide_eq_true (by kernel_rfl)) (by unfold Func.isWrapper;first | (rw[if_pos (by decide+kernel)];kernel_rfl) | (rw[if_neg (by decide+kernel)];exact⟨rfl,rfl⟩))
  (fun os started H enc _=>lifted os started H enc)
theorem plain(f:FuncId)(fn:Func)(hf:Tryz.pinned.checked.prog.funcNamed "attest/attestlaw22.ProofLends" =some f)(hfn:Tryz.pinned.checked.prog.funcs[f]?=some fn):
  true=Tryz.pinned.checked.prog.looks []∧∀ (j:Nat) t,fn.params[j]?=some t→Tryz.pinned.checked.prog.wantsStandIn t=false:=by
 obtain rfl:f=5:=Option.some.inj ((show Tryz.prog.funcNamed "attest/attestlaw22.ProofLends" =some 5 by kernel_rfl).symm.trans hf)|>.symm;obtain rfl:fn=Tryz.f5:=(Option.some.inj (Tryz.func5.symm.trans hfn)).symm;refine⟨by kernel_rfl,fun j t ht=>?_⟩;rw[Tryz.params5]at ht;have hm:t∈[25,26]:=by simpa using Array.mem_of_getElem? ht
 have hall:([25,26].all fun u=>!Tryz.prog.wantsStandIn u)=true:=by kernel_rfl
 exact(show Tryz.prog.wantsStandIn t=false by simpa using List.all_eq_true.1 hall t hm)
theorem c_wf:Rows.proofLendsRow.wfByText (OpenSpec.ofChange Rows.proofLendsSpec)=true:=by kernel_rfl
theorem c_main:Tryz.pinned.checked.prog.mainIs=some (Rows.proofLendsCard.stood.harness.1,Rows.proofLendsCard.stood.harness.2.toList):=by kernel_rfl
theorem c_goes:false=Rows.proofLendsRow.goesBy Tryz.pinned.checked.prog:=by kernel_rfl
theorem card:Rows.ProofLendsCardSaid:=
 Claim7.holds_tied_plain_at .later [] _ _ _ _ said (fun _ h=>by cases h) c_wf (fun _ h=>by cases h) proofLends_row_tie rfl ⟨rfl,rfl⟩ c_main rfl plain c_goes
end Go.Proofs.YtbbpecfapohlaaaGreatDoor.pflends
