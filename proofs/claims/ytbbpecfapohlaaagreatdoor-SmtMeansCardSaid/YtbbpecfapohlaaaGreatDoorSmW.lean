import Derived.Test.YtbbpecfapohlaaaGreatDoorPpG
import Derived.Test.YtbbpecfapohlaaaGreatDoorSmP
import Derived.Test.YtbbpecfapohlaaaGreatDoorOpenM
namespace Go.Proofs.YtbbpecfapohlaaaGreatDoor
open Go.RowKit
attribute [local irreducible] AC Do St
section
variable {Kw:World→Prop}[KSt Kw][KHas Kw Tab][KHas Kw MaxL]
set_option maxRecDepth 100000 in
set_option maxHeartbeats 4000000 in
theorem smtTidiesF(p:PN)(hp:okPN p):FnK Tryz.prog 11 Kw [.g (enPN p)] [.d (.v (.bool true))]:=by
 have hof:=of14 p hp
 have hok:=spN_ok hp
 generalize spN p=x at hof hok
 have hti:FnK Tryz.prog 16 Kw [.g (enSP x)] (tiR x):=(smtTidy x hok).low
 have hto:=told14 x hok
 have hlo:=loose14 x hok
 have haw:=awake14 (Kw:=Kw)
 unfold tiR at hti
 by_cases h0:looP x=0
 ·rw[if_pos h0]at hti
  rw[h0]at hlo
  have hl:=looP_zero h0
  obtain⟨hok2,hch⟩:=tidP_ok hok hl
  have hl2:=chk_loose hok2 hch
  have hT1:=tidied14 x hok hl
  have hT2:=tidied14 (tidP x) hok2 hl2
  have hto2:=told14 (tidP x) hok2
  have hck:=check14 (tidP x) hok2
  rw[hch]at hck
  have hti2:FnK Tryz.prog 16 Kw [.g (enSP (tidP x))] (tiR (tidP x)):=(smtTidy _ hok2).low
  unfold tiR at hti2
  rw[if_pos (looP_yes hl2)]at hti2
  obtain⟨hok3,_⟩:=tidP_ok hok2 hl2
  have hto3:=told14 (tidP (tidP x)) hok3
  generalize tidP (tidP x)=z at hT2 hti2 hto3
  generalize tidP x=y at hti hT1 hT2 hto2 hck hti2
  refine FnK.of Tryz.func11 rfl (by kernel_rfl) Tryz.ntmps11 Tryz.results11 rfl fun w0 S0 hK0=>?_
  refine wk ?_
  refine c1 hof ?_
  refine wk ?_
  refine c1 hof ?_
  refine wk ?_
  refine c1 hti ?_
  refine wk ?_
  refine c1 hto ?_
  refine wk ?_
  refine c1 hlo ?_
  refine wk ?_
  refine c1 haw ?_
  refine wk ?_
  refine c1 hto2 ?_
  refine wk ?_
  refine c1 hck ?_
  refine wk ?_
  refine c1 hto ?_
  refine wk ?_
  refine c1 hto2 ?_
  refine wk ?_
  refine c1 hT1 ?_
  refine wk ?_
  refine c1 hti2 ?_
  refine wk ?_
  refine c1 hto2 ?_
  refine wk ?_
  refine c1 hto3 ?_
  refine wk ?_
  refine c1 hT2 ?_
  refine wk ?_
  exact⟨.d rfl (.inl rfl),trivial⟩
 ·rw[if_neg h0]at hti
  have hz:=zero14
  generalize looP x=E at hti hlo h0
  refine FnK.of Tryz.func11 rfl (by kernel_rfl) Tryz.ntmps11 Tryz.results11 rfl fun w0 S0 hK0=>?_
  refine wa ?_
  exact⟨.d rfl (.inl rfl),trivial⟩
end
end Go.Proofs.YtbbpecfapohlaaaGreatDoor
