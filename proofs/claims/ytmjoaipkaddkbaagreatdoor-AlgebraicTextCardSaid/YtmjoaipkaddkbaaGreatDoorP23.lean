/- Part of a proof. -/
import Derived.Test.YtmjoaipkaddkbaaGreatDoorP22
noncomputable section
set_option maxRecDepth 10000000
open Go
namespace Go.Proofs.YtmjoaipkaddkbaaGreatDoor.Ev
theorem bGC(hc:tG):VK (TR' hc) 60 40 [.im 1 [fN [2],fN [3,0]],fN [3,0,0,0]]=some (.tp [.im 1 [fN [2],fN [3,0]],fN [0,0,1,0],.int .i64 ((0:Nat):Int)],true):=by kernel_rfl
def TU(hc:tG):List CE:= .run (bFs hc):: .run (bGC hc)::TR' hc
theorem bHA(hc:tG):VK (TU hc) 60 15 [ex2,ex3]=some (ex0 ex5,false):=by kernel_rfl
end Go.Proofs.YtmjoaipkaddkbaaGreatDoor.Ev