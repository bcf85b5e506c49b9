/- Part of a proof. -/
import Derived.Test.YtmjoaipkaddkbaaGreatDoorP15
noncomputable section
set_option maxRecDepth 10000000
open Go
namespace Go.Proofs.YtmjoaipkaddkbaaGreatDoor.Ev
theorem bGe:VK T1 40 16 [aKx]=some (mU [-2,0,1] 0,false):=by kernel_rfl
theorem bC5:VK T0 40 19 [mU [-2,0,1] 1,mU [-2,0,1] 1]=some (.b true,false):=by kernel_rfl
theorem bCX:VK T0 40 19 [mU [-2,0,1] 1,mU [2, -2, -1,1] 2]=some (.b false,false):=by kernel_rfl
end Go.Proofs.YtmjoaipkaddkbaaGreatDoor.Ev