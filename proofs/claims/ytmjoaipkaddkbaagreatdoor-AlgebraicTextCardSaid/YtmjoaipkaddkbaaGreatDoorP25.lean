/- Part of a proof. -/
import Derived.Test.YtmjoaipkaddkbaaGreatDoorP24
noncomputable section
set_option maxRecDepth 10000000
open Go
namespace Go.Proofs.YtmjoaipkaddkbaaGreatDoor.Ev
def exU(l:List ((Int×Int)×(Int×Int))):TV:= .im 8 ((l.map fun p=>oI p.1.1 p.1.2++oI p.2.1 p.2.2).flatten)
theorem bGy:VK T1 60 49 [fN [2, -2, -1,1]]=some (exU [((-3,1),(0,1)),((3,4),(9,8)),((9,8),(3,2))],true):=by kernel_rfl
def T2:List CE:= .run bGy::T1
theorem bFU:VK T2 60 53 [mU [-2,0,1] 1]=some (.tp [fN [-2,0,1],.ag (oI 0 1++oI 3 1)],false):=by kernel_rfl
theorem bGl:VK T2 60 53 [mU [2, -2, -1,1] 2]=some (.tp [fN [2, -2, -1,1],.ag (oI 9 8++oI 3 2)],false):=by kernel_rfl
theorem bFP:VK T2 60 34 [mU [-2,0,1] 1]=some (.b true,false):=by kernel_rfl
theorem bG3:VK T2 60 34 [mU [2, -2, -1,1] 2]=some (.b true,false):=by kernel_rfl
def T3:List CE:= .run bFU:: .run bGl:: .run bFP:: .run bG3::T2
theorem bHI:VK T3 60 18 [mU [-2,0,1] 1,mU [2, -2, -1,1] 2]=some (.int .i64 ((0:Nat):Int),false):=by kernel_rfl
end Go.Proofs.YtmjoaipkaddkbaaGreatDoor.Ev