import Derived.JoinedOf
import Derived.Test.YtbbpecfapohlaaaGreatDoorChecked
import Derived.Test.YtbbpecfapohlaaaGreatDoorLaw
namespace Go.Proofs.YtbbpecfapohlaaaGreatDoor
open Go.RowKit Go.ChangeShapes Go.WideShapes Go.ChangeAt
theorem pf_own:ownKnob Tryz.prog.godebug=none:=by kernel_rfl
theorem pf_laid:laidOutB Tryz.prog=true:=by kernel_rfl
theorem pf_maps:mapsRowed Tryz.prog=true:=by kernel_rfl
theorem pf_heard:(Tryz.prog).stopsHeard=true:=by kernel_rfl
theorem pf_enter:(Tryz.prog).mayEnter=true:=by kernel_rfl
end Go.Proofs.YtbbpecfapohlaaaGreatDoor
