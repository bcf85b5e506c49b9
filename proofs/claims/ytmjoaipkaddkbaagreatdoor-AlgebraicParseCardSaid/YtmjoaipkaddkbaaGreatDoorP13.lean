/- Part of a proof. -/
import Derived.Test.YtmjoaipkaddkbaaGreatDoorP12
noncomputable section
set_option maxRecDepth 10000000
open Go
namespace Go.Proofs.YtmjoaipkaddkbaaGreatDoor
namespace Ev
theorem bF7:VK T0 40 13 [exN 2]=some (ex0 ex2,false):=by kernel_rfl
theorem bER:VK T0 40 13 [exN 3]=some (ex0 ex3,false):=by kernel_rfl
end Ev
end Go.Proofs.YtmjoaipkaddkbaaGreatDoor
