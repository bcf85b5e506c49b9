/- Part of a proof. -/
import Derived.Test.YtmjoaipkaddkbaaGreatDoorP16
import Derived.Test.YtmjoaipkaddkbaaGreatDoorP17
import Derived.Test.YtmjoaipkaddkbaaGreatDoorP19
import Derived.Test.YtmjoaipkaddkbaaGreatDoorP20
noncomputable section
open List renaming all_eq_true→bJt,map_cons→bJu,mem_map→bJF
open Nat renaming lt_trans→bJR
set_option maxRecDepth 10000000
open Go
namespace Go.Proofs.YtmjoaipkaddkbaaGreatDoor.Ev
section
def T5:List CE:= .run bGj:: .run bEY:: .run bHD:: .run bHH:: .run bHi:: .run bHz:: .run bHb:: .run bHl:: .run bHY:: .run bHU::T0
theorem bHu:VK T5 60 16 [ex5]=some (mU [1,0, -10,0,1] 3,false):=by kernel_rfl
end
section
theorem aU3:vz [-2,0,1] 1=true:=by kernel_rfl
theorem bI3:vz [-2,0,1] 2=false:=by kernel_rfl
theorem bI6:vz [2, -2, -1,1] 2=true:=by kernel_rfl
theorem bIo:vz [1,0, -10,0,1] 3=true:=by kernel_rfl
theorem bIh:vz [-2,0,1] 0=true:=by kernel_rfl
theorem aTG:kN [-2,0,1] 1=[97,108,103,101,98,114,97,105,99,32,91,45,50,32,48,32,49,93,32,49]:=by simp [kN,kP,dT,dX,Lib.decDigits]
theorem bIy:kN [-2,0,1] 2=[97,108,103,101,98,114,97,105,99,32,91,45,50,32,48,32,49,93,32,50]:=by simp [kN,kP,dT,dX,Lib.decDigits]
theorem bIg:kN [-2,0,1] 0=[97,108,103,101,98,114,97,105,99,32,91,45,50,32,48,32,49,93,32,48]:=by simp [kN,kP,dT,dX,Lib.decDigits]
theorem bIx:kN [2, -2, -1,1] 2=[97,108,103,101,98,114,97,105,99,32,91,50,32,45,50,32,45,49,32,49,93,32,50]:=by simp [kN,kP,dT,dX,Lib.decDigits]
theorem bIt:kN [1,0, -10,0,1] 3=[97,108,103,101,98,114,97,105,99,32,91,49,32,48,32,45,49,48,32,48,32,49,93,32,51]:=by simp [kN,kP,dT,dX,Lib.decDigits]
theorem aI9{n:Nat}(h0:n≠0)(h:n<4294967296):aO n=[n]:=by
 rw[aO,dif_neg h0,Nat.mod_eq_of_lt h,Nat.div_eq_of_lt h,gW]
theorem bGR{z:Int}(h:z.natAbs<4294967296):ci (decide (z<0)) (aO z.natAbs)=zU z:=by
 match z,h with
 | .ofNat 0,_=>show ci false (aO 0)=_;rw[gW];rfl
 | .ofNat (n+1),h=>
  have h':n+1<4294967296:=h
  show ci false (aO (n+1))=_
  rw[aI9 (Nat.succ_ne_zero n) h'];rfl
 | .negSucc n,h=>
  have h':n+1<4294967296:=h
  rw[show decide (Int.negSucc n<0)=true from decide_eq_true (Int.negSucc_lt_zero n)]
  show ci true (aO (n+1))=_
  rw[aI9 (Nat.succ_ne_zero n) h'];rfl
theorem aSn:∀(zs:List Int),(∀z∈zs,z.natAbs<4294967296)->eV.row (zs.map fz)=(zs.map zU).flatten
 | [],_=>rfl
 |z::zs,h=>by
  rw[bJu,EC.row_cons,aSn zs fun x hx=>h x (.tail _ hx),bJu,List.flatten_cons,←bGR (h z (.head _))]
  rfl
theorem aT7{z:Int}{zs:List Int}(h:∀x∈z::zs,x.natAbs<4294967296)(r:Int):tF ((z::zs).map fz) r=mU (z::zs) r:=by
 have e:=aSn (z::zs) h
 show TV.ag [tL 2 (eV.row ((z::zs).map fz)),.int .i64 r]=TV.ag [.im 2 (((z::zs).map zU).flatten),.int .i64 r]
 rw[←e];rfl
theorem aCW{zs:List Int}(h:zs.all (fun x=>decide (x.natAbs<4294967296))=true):∀x∈zs,x.natAbs<4294967296:=fun x hx=>of_decide_eq_true (bJt.1 h x hx)
theorem aSl{z:Int}{zs:List Int}{r:Nat}(h:(z::zs).all (fun x=>decide (x.natAbs<4294967296))=true)(a:(z::zs).length<=7)(d:r<10)(b:vz (z::zs) r=true){t:List UInt8}(c:kN (z::zs) r=t):
  VZ 19 8 [.str (bs t)]=some (ex0 (mU (z::zs) r),false):=by
 have:=aIz (m:=0) (zs:=z::zs) (r:=r) (by simp) a (fun x hx=>bJR (aCW h x hx) (by decide)) d
 rw[c,b,if_pos rfl,aT7 (aCW h)]at this
 exact this
theorem bH2{z:Int}{zs:List Int}{r:Nat}(h:(z::zs).all (fun x=>decide (x.natAbs<4294967296))=true)(a:(z::zs).length<=7)(d:r<10)(b:vz (z::zs) r=false){t:List UInt8}(c:kN (z::zs) r=t):
  VZ 19 8 [.str (bs t)]=some (.tp [.ag [.em,.int .i64 ((0:Nat):Int)],.int .i64 ((2:Nat):Int)],false):=by
 have:=aIz (m:=0) (zs:=z::zs) (r:=r) (by simp) a (fun x hx=>bJR (aCW h x hx) (by decide)) d
 rw[c,b,if_neg (by simp)]at this
 exact this
theorem aJQ{z:Int}{zs:List Int}{r:Nat}(h:(z::zs).all (fun x=>decide (x.natAbs<4294967296))=true)(a:(z::zs).length<=7)(d:r<10)(b:vz (z::zs) r=true){t:List UInt8}(c:kN (z::zs) r=t):
  VZ 18 9 [mU (z::zs) r]=some (.str (bs t),false):=by
 have:=aIB (m:=0) (l:=(z::zs).map fz) (r:=r) (by simpa using a) (fun x hx=>by
  obtain⟨y,g,rfl⟩:=bJF.1 hx
  have hs:=aCW h y g
  refine⟨cV _,by show val (aO y.natAbs)<_;rw[cO];exact bJR hs (by decide), ?_⟩
  show(aO y.natAbs).length<1000
  by_cases h0:y.natAbs=0
  ·rw[h0,gW];decide
  ·rw[aI9 h0 hs];show 1<1000;decide) ⟨by omega,by omega⟩
 rw[aT7 (aCW h)]at this
 have i:((z::zs).map fz).all dW=true:=bJt.2 fun x hx=>by obtain⟨y, -,rfl⟩:=bJF.1 hx;exact aPz y
 have j:((z::zs).map fz).map bZ=z::zs:=by rw[List.map_map];exact(List.map_congr_left fun y _=>aRu y).trans (List.map_id _)
 rw[yR,i,j,b,Bool.true_and,if_pos rfl,c]at this
 exact this
def CE.vz{n:Nat}{f:FuncId}{args:List TV}{R:TV}{own:Bool}(h:VZ n f args=some (R,own)):CE:= .fix f args R own fun _ k=>aRW k n _ _ _ _ h
def Tx:List CE:=[.vz (aSl (r:=1) rfl (by decide) (by decide) aU3 aTG),.vz (aSl (r:=2) rfl (by decide) (by decide) bI6 bIx),.vz (bH2 (r:=2) rfl (by decide) (by decide) bI3 bIy),
 .vz (aJQ (r:=1) rfl (by decide) (by decide) aU3 aTG),.vz (aJQ (r:=0) rfl (by decide) (by decide) bIh bIg),.vz (aJQ (r:=3) rfl (by decide) (by decide) bIo bIt)]
end
end Go.Proofs.YtmjoaipkaddkbaaGreatDoor.Ev