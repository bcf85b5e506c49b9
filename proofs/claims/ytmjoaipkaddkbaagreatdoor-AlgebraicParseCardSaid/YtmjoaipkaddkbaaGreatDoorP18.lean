/- Part of a proof. -/
import Derived.Test.YtmjoaipkaddkbaaGreatDoorP17
noncomputable section
set_option maxRecDepth 10000000
open Go
namespace Go.Proofs.YtmjoaipkaddkbaaGreatDoor
namespace Ev
theorem bI7:VK T0 60 50 [exT,exE (-11) 4,exS]=some (.int .i64 (-1),false):=by kernel_rfl
theorem bID:VK T0 60 50 [exT,exS,exE 0 1]=some (.int .i64 1,false):=by kernel_rfl
theorem bI4:VK T0 60 50 [exT,exE 0 1,exS]=some (.int .i64 (-1),false):=by kernel_rfl
end Ev
end Go.Proofs.YtmjoaipkaddkbaaGreatDoor
