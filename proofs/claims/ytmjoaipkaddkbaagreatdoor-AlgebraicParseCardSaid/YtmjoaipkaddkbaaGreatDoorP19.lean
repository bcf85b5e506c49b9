/- Part of a proof. -/
import Derived.Test.YtmjoaipkaddkbaaGreatDoorP17
noncomputable section
set_option maxRecDepth 10000000
open Go
namespace Go.Proofs.YtmjoaipkaddkbaaGreatDoor
namespace Ev
theorem bIi:VK T0 60 50 [exT,exS,exE 11 4]=some (.int .i64 1,false):=by kernel_rfl
theorem bIJ:VK T0 60 50 [exT,exE 11 4,exS]=some (.int .i64 (-1),false):=by kernel_rfl
theorem bIw:VK T0 60 50 [exT,exS,exE 11 2]=some (.int .i64 (-1),false):=by kernel_rfl
end Ev
end Go.Proofs.YtmjoaipkaddkbaaGreatDoor
