/- Part of a proof. -/
import Derived.Test.YtmjoaipkaddkbaaGreatDoorP15
noncomputable section
set_option maxRecDepth 10000000
open Go
namespace Go.Proofs.YtmjoaipkaddkbaaGreatDoor.Ev
theorem bGj:VK T0 60 46 [ex5]=some (fN [1,0, -10,0,1],true):=by kernel_rfl
end Go.Proofs.YtmjoaipkaddkbaaGreatDoor.Ev