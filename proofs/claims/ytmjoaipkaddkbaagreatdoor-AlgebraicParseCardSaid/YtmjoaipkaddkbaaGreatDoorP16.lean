/- Part of a proof. -/
import Derived.Test.YtmjoaipkaddkbaaGreatDoorP14
noncomputable section
set_option maxRecDepth 10000000
open Go
namespace Go.Proofs.YtmjoaipkaddkbaaGreatDoor
namespace Ev
def exW(l:List ((Int×Int)×(Int×Int))):TV:= .im 8 ((l.map fun p=>oS p.1.1 p.1.2++oS p.2.1 p.2.2).flatten)
theorem bGQ:VK T0 60 49 [fQ [1,0, -10,0,1]]=some (exW [((-11,2),(-11,4)),((-11,4),(0,1)),((0,1),(11,4)),((11,4),(11,2))],true):=by kernel_rfl
end Ev
end Go.Proofs.YtmjoaipkaddkbaaGreatDoor
