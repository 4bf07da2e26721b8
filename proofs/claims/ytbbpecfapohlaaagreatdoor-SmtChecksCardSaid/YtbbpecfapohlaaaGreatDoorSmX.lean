import Derived.Test.YtbbpecfapohlaaaGreatDoorSmW
import Derived.Test.YtbbpecfapohlaaaGreatDoorSmJ
namespace Go.Proofs.YtbbpecfapohlaaaGreatDoor
open Go.RowKit
attribute [local irreducible] AC Do St
theorem bI_one(bs:List Bool):∀ c∈bs.map bI,c.length=1:=fun c hc=>by
 obtain⟨b,_,rfl⟩:=List.mem_map.1 hc;rfl
theorem pt_ok{l:List (Bool×List Nat×List Nat)}(h:okP l):OkXs (ptN l):=⟨fun q hq=>(ptN_bd h q hq).mono (by omega),ptN_len l⟩
section
variable {Kw:World→Prop}[KSt Kw][KHas Kw Tab][KHas Kw MaxL]
set_option maxRecDepth 100000 in
set_option maxHeartbeats 4000000 in
theorem smtMeansF(p:PN)(hp:okPN p)(pt:List (Bool×List Nat×List Nat))(hpt:okP pt)(bs:List Bool)(hbl:bs.length≤140737488355328):FnK Tryz.prog 12 Kw [.g (enPN p),.d (.l (pt.map enN)),.d (enBs bs)] [.d (.v (.bool true))]:=by
 have hof:=of14 p hp
 have hok:=spN_ok hp
 have hpo:=point pt hpt
 have hxs:=pt_ok hpt
 have hnu:=nums (ptN pt) 6682 (by omega) hxs.b (by have:=hxs.n;omega)
 generalize spN p=x at hof hok
 generalize ptN pt=xs at hpo hxs hnu
 have hti:FnK Tryz.prog 16 Kw [.g (enSP x)] (tiR x):=(smtTidy x hok).low
 have hto:=told14 x hok
 have hlo:=loose14 x hok
 have haw:=awake14 (Kw:=Kw)
 unfold tiR at hti
 by_cases h0:looP x=0
 ·rw[if_pos h0]at hti
  rw[h0]at hlo
  have hl:=looP_zero h0
  obtain⟨hok2,hch⟩:=tidP_ok hok hl
  have hh1:FnK Tryz.prog 45 Kw _ _:=(smtHolds (tidP x) hok2 xs bs hxs).low
  rw[if_pos hch,hch,hol_tid hok hl]at hh1
  have hh2:=holds14 x hok hl xs bs hxs
  generalize tidP x=y at hti hh1
  generalize holP x xs bs=B at hh1 hh2
  refine FnK.of Tryz.func12 rfl (by kernel_rfl) Tryz.ntmps12 Tryz.results12 rfl fun w0 S0 hK0=>?_
  refine wk ?_
  refine c1 hof ?_
  refine wk ?_
  refine c1 hof ?_
  refine wk ?_
  refine c1 hti ?_
  refine wk ?_
  refine c1 hto ?_
  refine wk ?_
  refine c1 hlo ?_
  refine wk ?_
  refine c1 hpo ?_
  refine wk ?_
  ((try (first | intro K ms hms hK | intro K hK));(first | apply Chain.ef | apply Chain.efD);exact rfl;exact rfl;exact Do.appendF rfl rfl rfl rfl rfl (bI_one bs) (by simp;omega);exact rfl;exact rfl)
  refine wk ?_
  refine c1 hh1 ?_
  refine wk ?_
  refine c1 haw ?_
  refine wk ?_
  refine c1 hto ?_
  refine wk ?_
  refine c1 hpo ?_
  refine wk ?_
  refine c1 hnu ?_
  refine wk ?_
  refine c1 hh2 ?_
  cases B with
  | true=>
    refine wa ?_
    exact⟨.d rfl (.inl rfl),trivial⟩
  | false=>
    refine wa ?_
    exact⟨.d rfl (.inl rfl),trivial⟩
 ·rw[if_neg h0]at hti
  generalize looP x=E at hti hlo h0
  refine FnK.of Tryz.func12 rfl (by kernel_rfl) Tryz.ntmps12 Tryz.results12 rfl fun w0 S0 hK0=>?_
  refine wa ?_
  exact⟨.d rfl (.inl rfl),trivial⟩
set_option maxRecDepth 100000 in
set_option maxHeartbeats 4000000 in
theorem smtChecksF(p:PN)(hp:okPN p)(pt:List (Bool×List Nat×List Nat))(hpt:okP pt)(bs:List Bool)(hbl:bs.length≤140737488355328):FnK Tryz.prog 10 Kw [.g (enPN p),.d (.l (pt.map enN)),.d (enBs bs)] [.d (.v (.bool true))]:=by
 have hof:=of14 p hp
 have hok:=spN_ok hp
 have hpo:=point pt hpt
 have hxs:=pt_ok hpt
 have hnu:=nums (ptN pt) 6682 (by omega) hxs.b (by have:=hxs.n;omega)
 generalize spN p=x at hof hok
 generalize ptN pt=xs at hpo hxs hnu
 have hto:=told14 x hok
 have hc14:=check14 x hok
 have hck:FnK Tryz.prog 47 Kw [.g (enSP x)] [.d (.v (.int .i64 (chkP x)))]:=(smtCheck x hok).low
 have haw:=awake14 (Kw:=Kw)
 have hh1:FnK Tryz.prog 45 Kw _ _:=(smtHolds x hok xs bs hxs).low
 by_cases h0:chkP x=0
 ·have hl:=chk_loose hok h0
  rw[if_pos h0,h0]at hh1
  rw[h0]at hck hc14
  have hh2:=holds14 x hok hl xs bs hxs
  generalize holP x xs bs=B at hh1 hh2
  refine FnK.of Tryz.func10 rfl (by kernel_rfl) Tryz.ntmps10 Tryz.results10 rfl fun w0 S0 hK0=>?_
  refine wk ?_
  refine c1 hof ?_
  refine wk ?_
  refine c1 hto ?_
  refine wk ?_
  refine c1 hc14 ?_
  refine wk ?_
  refine c1 hof ?_
  refine wk ?_
  refine c1 hpo ?_
  refine wk ?_
  ((try (first | intro K ms hms hK | intro K hK));(first | apply Chain.ef | apply Chain.efD);exact rfl;exact rfl;exact Do.appendF rfl rfl rfl rfl rfl (bI_one bs) (by simp;omega);exact rfl;exact rfl)
  refine wk ?_
  refine c1 hh1 ?_
  refine wk ?_
  refine c1 haw ?_
  refine wk ?_
  refine c1 hof ?_
  refine wk ?_
  refine c1 hck ?_
  refine wk ?_
  refine c1 hto ?_
  refine wk ?_
  refine c1 hpo ?_
  refine wk ?_
  refine c1 hnu ?_
  refine wk ?_
  refine c1 hh2 ?_
  cases B with
  | true=>
    refine wa ?_
    exact⟨.d rfl (.inl rfl),trivial⟩
  | false=>
    refine wa ?_
    exact⟨.d rfl (.inl rfl),trivial⟩
 ·rw[if_neg h0]at hh1
  generalize chkP x=E at hh1 hck hc14 h0
  refine FnK.of Tryz.func10 rfl (by kernel_rfl) Tryz.ntmps10 Tryz.results10 rfl fun w0 S0 hK0=>?_
  refine wk ?_
  refine c1 hof ?_
  refine wk ?_
  refine c1 hto ?_
  refine wk ?_
  refine c1 hc14 ?_
  refine wk ?_
  refine c1 hof ?_
  refine wk ?_
  refine c1 hpo ?_
  refine wk ?_
  ((try (first | intro K ms hms hK | intro K hK));(first | apply Chain.ef | apply Chain.efD);exact rfl;exact rfl;exact Do.appendF rfl rfl rfl rfl rfl (bI_one bs) (by simp;omega);exact rfl;exact rfl)
  refine wa ?_
  exact⟨.d rfl (.inl rfl),trivial⟩
end
end Go.Proofs.YtbbpecfapohlaaaGreatDoor
