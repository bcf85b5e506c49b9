/- Part of a proof. -/
import Derived.Test.YtmjoaipkaddkbaaGreatDoorP18
noncomputable section
set_option maxRecDepth 10000000
open Go
namespace Go.Proofs.YtmjoaipkaddkbaaGreatDoor.Ev
theorem bHl:VK T0 60 50 [zS,yS,yZ 11 4]=some (.int .i64 1,false):=by kernel_rfl
theorem bHY:VK T0 60 50 [zS,yZ 11 4,yS]=some (.int .i64 (-1),false):=by kernel_rfl
theorem bHU:VK T0 60 50 [zS,yS,yZ 11 2]=some (.int .i64 (-1),false):=by kernel_rfl
end Go.Proofs.YtmjoaipkaddkbaaGreatDoor.Ev