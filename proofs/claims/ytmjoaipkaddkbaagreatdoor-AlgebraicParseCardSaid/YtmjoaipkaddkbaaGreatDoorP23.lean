/- Part of a proof. -/
import Derived.Test.YtmjoaipkaddkbaaGreatDoorP14
noncomputable section
set_option maxRecDepth 10000000
open Go
namespace Go.Proofs.YtmjoaipkaddkbaaGreatDoor
namespace Ev
theorem bHN:VK T1 40 16 [aL7]=some (mZ [-2,0,1] 0,false):=by kernel_rfl
theorem bDi:VK T0 40 19 [mZ [-2,0,1] 1,mZ [-2,0,1] 1]=some (.b true,false):=by kernel_rfl
theorem bEY:VK T0 40 19 [mZ [-2,0,1] 1,mZ [2, -2, -1,1] 2]=some (.b false,false):=by kernel_rfl
end Ev
end Go.Proofs.YtmjoaipkaddkbaaGreatDoor
