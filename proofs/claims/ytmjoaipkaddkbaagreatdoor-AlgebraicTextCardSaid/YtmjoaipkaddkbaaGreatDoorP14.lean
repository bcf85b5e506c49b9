/- Part of a proof. -/
import Derived.Test.YtmjoaipkaddkbaaGreatDoorP13
noncomputable section
set_option maxRecDepth 10000000
open Go
namespace Go.Proofs.YtmjoaipkaddkbaaGreatDoor.Ev
theorem bC2:VK T0 40 13 [exN 2]=some (ex0 ex2,false):=by kernel_rfl
theorem bDm:VK T0 40 13 [exN 3]=some (ex0 ex3,false):=by kernel_rfl
end Go.Proofs.YtmjoaipkaddkbaaGreatDoor.Ev