/- Part of a proof. -/
import Derived.Test.YtmjoaipkaddkbaaGreatDoorP15
noncomputable section
set_option maxRecDepth 10000000
open Go
namespace Go.Proofs.YtmjoaipkaddkbaaGreatDoor.Ev
def exW(l:List ((Int×Int)×(Int×Int))):TV:= .im 8 ((l.map fun p=>oI p.1.1 p.1.2++oI p.2.1 p.2.2).flatten)
theorem bEY:VK T0 60 49 [fN [1,0, -10,0,1]]=some (exW [((-11,2),(-11,4)),((-11,4),(0,1)),((0,1),(11,4)),((11,4),(11,2))],true):=by kernel_rfl
end Go.Proofs.YtmjoaipkaddkbaaGreatDoor.Ev