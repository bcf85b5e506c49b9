/- Part of a proof. -/
import Derived.Test.YtmjoaipkaddkbaaGreatDoorP15
noncomputable section
set_option maxRecDepth 10000000
open Go
namespace Go.Proofs.YtmjoaipkaddkbaaGreatDoor.Ev
def zS:TV:= .im 1 [fN [2],fN [3,0]]
def yZ(a b:Int):TV:= .im 4 (oI a b++oI 0 1++oI 0 1++oI 0 1)
def yS:TV:=fN [0,1,1,0]
theorem bHD:VK T0 60 50 [zS,yZ (-11) 2,yS]=some (.int .i64 (-1),false):=by kernel_rfl
theorem bHH:VK T0 60 50 [zS,yS,yZ (-11) 4]=some (.int .i64 1,false):=by kernel_rfl
end Go.Proofs.YtmjoaipkaddkbaaGreatDoor.Ev