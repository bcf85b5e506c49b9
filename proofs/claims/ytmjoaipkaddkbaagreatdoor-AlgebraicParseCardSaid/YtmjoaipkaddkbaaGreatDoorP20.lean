/- Part of a proof. -/
import Derived.Test.YtmjoaipkaddkbaaGreatDoorP15
import Derived.Test.YtmjoaipkaddkbaaGreatDoorP16
import Derived.Test.YtmjoaipkaddkbaaGreatDoorP18
import Derived.Test.YtmjoaipkaddkbaaGreatDoorP19
noncomputable section
open List renaming all_eq_true→bKq,map_cons→bKc,mem_map→bKP
set_option maxRecDepth 10000000
open Go
namespace Go.Proofs.YtmjoaipkaddkbaaGreatDoor
namespace Ev
def T5:List CE:= .run bHo:: .run bGQ:: .run bIe:: .run bIn:: .run bI7:: .run bID:: .run bI4:: .run bIi:: .run bIJ:: .run bIw::T0
theorem bHY:VK T5 60 16 [ex5]=some (mZ [1,0, -10,0,1] 3,false):=by kernel_rfl
theorem aUK:vz [-2,0,1] 1=true:=by kernel_rfl
theorem bJk:vz [-2,0,1] 2=false:=by kernel_rfl
theorem bJi:vz [2, -2, -1,1] 2=true:=by kernel_rfl
theorem bJl:vz [1,0, -10,0,1] 3=true:=by kernel_rfl
theorem bJ6:vz [-2,0,1] 0=true:=by kernel_rfl
theorem aUx:gW [-2,0,1] 1=[97,108,103,101,98,114,97,105,99,32,91,45,50,32,48,32,49,93,32,49]:=by simp [gW,eJ,cX,cD,Lib.decDigits]
theorem bJb:gW [-2,0,1] 2=[97,108,103,101,98,114,97,105,99,32,91,45,50,32,48,32,49,93,32,50]:=by simp [gW,eJ,cX,cD,Lib.decDigits]
theorem bJr:gW [-2,0,1] 0=[97,108,103,101,98,114,97,105,99,32,91,45,50,32,48,32,49,93,32,48]:=by simp [gW,eJ,cX,cD,Lib.decDigits]
theorem bIW:gW [2, -2, -1,1] 2=[97,108,103,101,98,114,97,105,99,32,91,50,32,45,50,32,45,49,32,49,93,32,50]:=by simp [gW,eJ,cX,cD,Lib.decDigits]
theorem bJ7:gW [1,0, -10,0,1] 3=[97,108,103,101,98,114,97,105,99,32,91,49,32,48,32,45,49,48,32,48,32,49,93,32,51]:=by simp [gW,eJ,cX,cD,Lib.decDigits]
theorem aIh{n:Nat}(h0:n≠0)(h:n<4294967296):aO n=[n]:=by
 rw[aO,dif_neg h0,Nat.mod_eq_of_lt h,Nat.div_eq_of_lt h,gH]
theorem bG7{z:Int}(h:z.natAbs<4294967296):ci (decide (z<0)) (aO z.natAbs)=exZ z:=by
 match z,h with
 | .ofNat 0,_=>show ci false (aO 0)=_;rw[gH];rfl
 | .ofNat (n+1),h=>
  have h':n+1<4294967296:=h
  show ci false (aO (n+1))=_
  rw[aIh (Nat.succ_ne_zero n) h'];rfl
 | .negSucc n,h=>
  have h':n+1<4294967296:=h
  rw[show decide (Int.negSucc n<0)=true from ak (Int.negSucc_lt_zero n)]
  show ci true (aO (n+1))=_
  rw[aIh (Nat.succ_ne_zero n) h'];rfl
theorem aSq:∀(zs:List Int),(∀z∈zs,z.natAbs<4294967296)->eP.row (zs.map fz)=(zs.map exZ).flatten
 | [],_=>rfl
 |z::zs,h=>by
  rw[bKc,EC.row_cons,aSq zs fun x hx=>h x (.tail _ hx),bKc,List.flatten_cons,←bG7 (h z (.head _))]
  rfl
theorem aTU{z:Int}{zs:List Int}(h:∀x∈z::zs,x.natAbs<4294967296)(r:Int):tF ((z::zs).map fz) r=mZ (z::zs) r:=by
 have e:=aSq (z::zs) h
 show TV.ag [tL 2 (eP.row ((z::zs).map fz)),.int .i64 r]=TV.ag [.im 2 (((z::zs).map exZ).flatten),.int .i64 r]
 rw[←e];rfl
theorem aJg{zs:List Int}(h:zs.all (fun x=>decide (x.natAbs<4294967296))=true):∀x∈zs,x.natAbs<4294967296:=fun x hx=>ae (bKq.1 h x hx)
theorem aT7{z:Int}{zs:List Int}{r:Nat}(h:(z::zs).all (fun x=>decide (x.natAbs<4294967296))=true)(a:vz (z::zs) r=true){t:List UInt8}(b:gW (z::zs) r=t)(d:t.length<=80)(hc:t.count 32<=8):
  VZ 19 8 [.str (bs t)]=some (ex0 (mZ (z::zs) r),false):=by
 have:=aJb (m:=0) (T:=t) d hc
 rw[aIo (aYV d hc b.symm a)]at this
 have this:VZ 19 8 [.str (bs t)]=some (.tp [tF ((z::zs).map fz) r,.int .i64 ((0:Nat):Int)],false):=this
 rw[aTU (aJg h)]at this
 exact this
theorem bBf{z y:Int}{zs ys:List Int}{r s:Int}(h:gW (z::zs) r=gW (y::ys) s):z::zs=y::ys/\r.toNat=s.toNat:=by
 have e:=aAp (zs:=z::zs) (r:=r)
 rw[h,aAp]at e
 injection e with g i
 injection i with i _
 rw[bKc,bKc]at g
 have o:(y::ys).map cD=(z::zs).map cD:=aIy (c:=32) (w:=cD y) (ws:=ys.map cD) (v:=cD z) (vs:=zs.map cD) (by rw[←bKc];exact aD3) (by rw[←bKc];exact aD3) g
 exact⟨(aER o).symm,by rw[←yE r.toNat,←i,yE]⟩
theorem bGm{z:Int}{zs:List Int}{r:Nat}(a:vz (z::zs) r=false){t:List UInt8}(b:gW (z::zs) r=t)(d:t.length<=80)(hc:t.count 32<=8):
  VZ 19 8 [.str (bs t)]=some (.tp [.ag [.em,.int .i64 ((0:Nat):Int)],.int .i64 ((2:Nat):Int)],false):=by
 have:=aJb (m:=0) (T:=t) d hc
 rw[tB (T:=t) fun p j=>by
  obtain⟨ps,pr⟩:=p
  obtain⟨h1,h2,k⟩:=j
  simp only at h1 h2 k
  have B:=aC5 k h2
  cases ps with
  |nil=>exact absurd rfl (aCr h2)
  |cons y ys=>
   obtain⟨g,i⟩:=bBf (b.trans h1)
   rw[←g,show pr=(r:Int) by omega,a]at h2
   cases h2]at this
 exact this
theorem aK4{z:Int}{zs:List Int}{r:Nat}(h:(z::zs).all (fun x=>decide (x.natAbs<4294967296))=true)(C:zs.length<=6)(D:r<10)(a:vz (z::zs) r=true){t:List UInt8}(b:gW (z::zs) r=t):
  VZ 18 9 [mZ (z::zs) r]=some (.str (bs t),false):=by
 have:=aPD (m:=0) (l:=(z::zs).map fz) (r:=r) (by rw[List.length_map,List.length_cons];omega) (fun x hx=>by
  obtain⟨y,q,rfl⟩:=bKP.1 hx
  have hs:=aJg h y q
  refine⟨cU _,by show val (aO y.natAbs)<_;rw[cO];exact Nat.lt_trans hs (by decide), ?_⟩
  show(aO y.natAbs).length<1000
  by_cases h0:y.natAbs=0
  ·rw[h0,gH];decide
  ·rw[aIh h0 hs];show 1<1000;decide) ⟨by omega,by omega⟩
 rw[aTU (aJg h)]at this
 have u:((z::zs).map fz).all eA=true:=bKq.2 fun x hx=>by obtain⟨y, -,rfl⟩:=bKP.1 hx;exact aJp y
 have A:((z::zs).map fz).map cE=z::zs:=by rw[List.map_map];exact(List.map_congr_left fun y _=>aTL y).trans (List.map_id _)
 rw[aCG,u,A,a,Bool.true_and,if_pos rfl,b]at this
 exact this
def CE.vz{n:Nat}{f:FuncId}{args:List TV}{R:TV}{own:Bool}(h:VZ n f args=some (R,own)):CE:= .fix f args R own fun _ j=>aSf j n _ _ _ _ h
def Tx:List CE:=[.vz (aT7 (r:=1) rfl aUK aUx (by decide) (by decide)),.vz (aT7 (r:=2) rfl bJi bIW (by decide) (by decide)),.vz (bGm (r:=2) bJk bJb (by decide) (by decide)),
 .vz (aK4 (r:=1) rfl (by decide) (by decide) aUK aUx),.vz (aK4 (r:=0) rfl (by decide) (by decide) bJ6 bJr),.vz (aK4 (r:=3) rfl (by decide) (by decide) bJl bJ7)]
end Ev
end Go.Proofs.YtmjoaipkaddkbaaGreatDoor
