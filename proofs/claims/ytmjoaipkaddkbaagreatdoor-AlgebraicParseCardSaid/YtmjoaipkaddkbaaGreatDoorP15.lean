/- Part of a proof. -/
import Derived.Test.YtmjoaipkaddkbaaGreatDoorP14
noncomputable section
set_option maxRecDepth 10000000
open Go
namespace Go.Proofs.YtmjoaipkaddkbaaGreatDoor
namespace Ev
theorem bHo:VK T0 60 46 [ex5]=some (fQ [1,0, -10,0,1],true):=by kernel_rfl
end Ev
end Go.Proofs.YtmjoaipkaddkbaaGreatDoor
