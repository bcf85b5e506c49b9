/- Part of a proof. -/
import Derived.Test.YtmjoaipkaddkbaaGreatDoorP06
import Derived.Laws.OwnMore
import Derived.Deep.Draws
import Derived.RangeFuncBox
import Derived.RangeFuncLeaves
import Derived.RangeFuncNested
import Derived.Shelf.Abstract
import Derived.OwnWalkIn
import Derived.TacticsInMore
import Derived.LoopNIn
import Derived.LoopIn
import Derived.Outline
import Derived.Lib.Hide
import Derived.RangeFuncBound
import Derived.RangeFuncCalls
import Derived.Sort.LoopGhostIn
import Derived.Stop.RegionWithIn
import Derived.Lib.Split
import Derived.Lib.IndexMore
import Derived.Lib.CountLaws
noncomputable section
open Nat renaming reduceBEq → zB, reduceEqDiff → zC, reduceAdd → zD, reduceMul → zE, reduceSub → zF, reduceLT → zG, reduceLeDiff → zH
open Array renaming getElem?_eq_none→bMk,getElem?_eq_some_iff→bLm,replicate_succ→bLZ,replicate_zero→bM0
open Bool renaming and_eq_true→bJI,and_false→bMl,and_self→bKr,and_true→bKD,not_false→bLr,not_true→bKN,true_and→bKI
open Int renaming toNat_natCast→bLc
open List renaming all_cons→bKK,all_eq_true→bKq,all_nil→bLk,append_assoc→bKH,append_toArray→bM2,cons_append→bKm,drop_eq_getElem_cons→bLx,drop_left→bMu,getElem?_drop→bLf,getElem?_take_of_lt→bMS,getElem_mem→bLR,getElem_range→bN6,isPrefixOf_iff_prefix→bNq,length→bKU,length_append→bJW,length_cons→bJN,length_drop→bK3,length_map→bKo,length_nil→bKf,length_range→bMB,length_take→bJO,map_append→bL6,map_cons→bKc,mem_cons→bJZ,mem_cons_of_mem→bKx,mem_cons_self→bKn,mem_map→bKP,mem_of_mem_take→bM6,nil_append→bKA,push_toArray→bM1,range→bKj,reverse_cons→bME,reverse_reverse→bNp,size_toArray→bLi,take_length→bKp,take_succ_eq_append_getElem→bLd
open Nat renaming ble_eq_true_of_le→bKX,eq_of_beq_eq_true→bJY,eq_zero_or_pos→bLF,le_of_ble_eq_true→bJP,le_refl→bJE,le_trans→bJH,lt_irrefl→bKl,lt_of_lt_of_le→bJK,lt_succ_self→bJT,lt_trans→bKV,min_eq_left→bK7,mul_le_mul_left→bK5,mul_le_mul_right→bK8,mul_one→bKk,mul_pos→bKG,not_lt_zero→bKM,pow_le_pow_right→bK2,pow_zero→bLe,reduceAdd→bLX,reduceSub→bLY,sub_self→bKS,zero_le→bJJ
open Option renaming bind_eq_some_iff→bJF,bind_some→bJM,map_eq_some_iff→bJG
open Go renaming Addr→bRb,FuncId→bR9,Program→bR8,Value→bR4,World→bR3
set_option maxRecDepth 10000000
open Go
open Go.Proofs.Tryz
open Go.Lib renaming hid→br,index→bt,occAt→bw,occAt_head→bz,hasPrefix→ce,trimPrefix→cg,countFrom→cj,splitK→ck
namespace Go.Proofs.YtmjoaipkaddkbaaGreatDoor
namespace Ev
section
variable {m:Nat}
theorem bDc{l:List Rat}:decide (((l.length:Nat):Int)=0)=decide (l=[]):=by
 refine decide_eq_decide.2 ?_
 rw[Int.natCast_eq_zero,List.length_eq_zero_iff]
theorem bEP{n:Nat}(h:0<n):(((n:Nat):Int):Rat)≠0:=fun e=>by
 have:((n:Int):Rat)=((0:Int):Rat):=e
 have:=Rat.intCast_inj.1 this
 omega
theorem aZC{p q:TV}:((hH [p] 0 (List.replicate 2 [TV.nil]).flatten).bind fun cs=>(hH [q] 1 cs).bind fun cs=>some cs)=some [p,q]:=rfl
theorem bDz:bO PG 127 f127 [2,32] []=true:=by kernel_rfl
theorem bHT{a:List Rat}{k:Nat}(h:gN k a):VX (m+14) 127 [tP a]=some (tC (iV a),false):=by
 have h2:=h.two
 have S:=h.len
 have ta:=fN a
 have T:(k+11)*3<=584000:=bJH (bK5 _ (show 3<=3^((tr a).length-1)from bK2 (n:=3) (show 0<3 by decide) (show 1<=(tr a).length-1 by omega))) h.h1
 have f1:=aIm (m:=m+8) (l:=a) (h.wd.ps (by omega) (by omega))
 rw[wA (show 0<(tr a).length by omega)]at f1
 have f2:=bCU (m:=m) h.wd (by omega) h2 h.gcd (bJH h.h1 (by decide))
 rw[h.sqf]at f2
 obtain⟨D,G,H,r⟩:=h.der
 have f3:=aKv (m:=m+3) (l:=bL a) (D.ps (by omega) (by omega))
 have I:decide ((tr a).length-1<1)=false:=ai (by omega)
 refine jR rfl func127 bDz rfl ?_
 simp only[f127,N1,bC,bF,bH,bG,bE,zB,zG]
 simp (disch:=first|rfl|omega)only[S1,aC,aE,aM,aJ,aD,zB,zE,zH,aU,iZ,vJ 90 rfl,f1 _,I,vJ 207 rfl,f2 _,vJ 91 rfl,f3 _,aZC]
 have i:∀x,1<=x->(k+11)*3^((tr a).length-x)-1<=584000:=fun x h1=>by
  have:=bK5 (k+11) (bK2 (show 0<3 by decide) (show(tr a).length-x<=(tr a).length-1 by omega))
  have:=h.h1
  omega
 have d0:dV (bL a)≠ []:=fun e=>by
  have hc:=aDH (bL a) ((tr a).length-2)
  rw[e,show(tr a).length-2+1=(bL a).length-1 by omega]at hc
  exact(fun h=>(Rat.mul_eq_zero.1 h).elim ((NF.pmonic a) (fun e=>by rw[e]at r;simp at r;omega)) (bEP (by omega))) hc.symm
 refine .loop (fun n e s=>∃c p q f v,e 3=some (tP p)/\e 4=some (tP q)/\e 5=some v/\fM iY dZ s v (c++[q])/\c++qJ (f+1) p q=iV a/\q≠ []/\q.length<=f/\NF p/\NF q/\q.length<p.length/\p.length<=(tr a).length/\WD ((k+11)*3^((tr a).length-p.length)-1) p/\WD ((k+11)*3^((tr a).length-p.length)-1) q/\n=q.length) (dV (bL a)).length ?_ (dB (by omega)) ?_
 ·refine⟨[bL a],bL a,dV (bL a),(dV (bL a)).length,.ow 0 0 2 1, ?_, ?_, ?_,⟨.inr ⟨0,rfl,Nat.one_pos,rfl⟩,bJJ _,fun j J=>absurd J (bKM _),fun _ _ _ _ _=>bJJ _⟩, ?_,d0,bJE _,.pmonic a,.pder _,H,by omega, ?_, ?_,rfl⟩
  ·simp (disch:=first|rfl|omega)only[S1,zB]
  ·simp (disch:=first|rfl|omega)only[S1,zB]
  ·simp (disch:=first|rfl|omega)only[S1,zB]
  ·rw[h.chain];rfl
  ·rw[r,bKS,bLe,bKk];exact D
  ·rw[r,bKS,bLe,bKk];exact G
 ·rintro n e s ⟨c,p,q,f,v,t,u,w,E,y,o,hf,np,nq,A,K,wp,wq,rfl⟩
  have L:c.length<=(tr a).length:=by have:=congrArg bKU y;have:=h.all.2;rw[bJW]at*;omega
  have M:0<q.length:=List.length_pos_iff.2 o
  obtain⟨f,rfl⟩:∃g,f=g+1:=⟨f-1,by omega⟩
  obtain⟨F,N,U⟩:=aBR wp wq np nq o A K (show 1<=k+11 by omega)
  obtain⟨O,P⟩:=aBv (a:=p) (b:=q) (by rw[nq.eq];exact o)
  rw[nq.eq]at O
  have V:=i p.length (by omega)
  have W:=i q.length (by omega)
  have Q:=h.h1
  have c1:=aY2 (m:=m+1) (a:=p) (b:=q) wp wq (by omega) (by omega) (by rw[nq.eq];exact o) (by rw[np.eq,nq.eq];omega) (by rw[np.eq,nq.eq];omega) (by omega)
  have hn:qJ (f+1+1) p q=q::qJ (f+1) q (eH (fH p q) ((-1:Int):Rat)):=by rw[qJ,if_neg o]
  simp (disch:=first|rfl|omega)only[S1,aN,aC,aE,aM,aJ,zB,aU,t,u,vJ 208 rfl,c1 _,bDc]
  refine cM (fun d=> ?_) (fun d=> ?_)
  ·have d:=ae d
   have R:c++[q]=iV a:=by rw[←y,hn,d];rfl
   have B:=E.bld.ret (show(c++[q]).length*3+1<=cL by rw[bJW];show(c.length+1)*3+1<=100000000;omega)
   simp (disch:=first|rfl|omega)only[S1,zB,reduceCtorEq,w]
   rw[B,R];rfl
  ·have d:=af d
   have c2:=aBw (m:=m+8) (z:= -1) (by decide) (by decide)
   have c3:=bBO (m:=m+3) (l:=fH p q) (F.ps (by omega) (by omega)) FR.neg1
   obtain⟨v',s',ea,C⟩:=E.stepC (eH (fH p q) ((-1:Int):Rat)) (by rw[bJW];show c.length+1<=_;omega)
   have ls:=aHQ (fH p q) ((-1:Int):Rat)
   simp (disch:=first|rfl|omega)only[S1,aK,aC,aE,aM,aJ,aD,zB,zE,zH,aU,iZ,t,u,w,ea,vJ 43 rfl,c2 _,vJ 209 rfl,c3 _]
   have rn:eH (fH p q) ((-1:Int):Rat)≠ []:=fun e=>by
    have hc:=rX (fH p q) ((-1:Int):Rat) ((fH p q).length-1)
    rw[e]at hc
    exact(fun h=>(Rat.mul_eq_zero.1 h).elim (P d) (by decide)) hc.symm
   refine⟨_, ?_,c++[q],q,eH (fH p q) ((-1:Int):Rat),f,v',rfl,rfl,rfl,C, ?_,rn, ?_,nq,.tr _, ?_,by omega,N,F.neg1,rfl⟩
   ·omega
   ·rw[←y,hn,bKH];rfl
   ·omega
   ·omega
theorem bGV{a:List Rat}{k:Nat}(h:gN k a):CC (VX (m+14)) 127 [tP a] (tC (iV a)):= .of (iM a) (jD a) (bHT h)
theorem fV0:lI PG 88 0=some (0,78):=by kernel_rfl
theorem fV1:lI PG 88 1=some (4,78):=by kernel_rfl
theorem pV0:qW PG 88 0=some (0,4):=by kernel_rfl
theorem pV1:qW PG 88 1=some (4,4):=by kernel_rfl
theorem zV:pO PG 88=some [.b false,.nil,.b false,.nil,.b false,.nil,.b false,.nil]:=by kernel_rfl
theorem bV:aAi PG 88=true:=by kernel_rfl
theorem kV:dG PG 88=true:=by kernel_rfl
theorem aV:jZ PG 88=true:=by kernel_rfl
theorem sV:aY PG 88=8:=by kernel_rfl
def tV(a b:Rat):TV:= .ag (cR a++cR b)
theorem aPs{a b:Rat}:(tV a b).cells=[.b (decide (a.num<0)),tW (aO a.num.natAbs),.b (decide ((a.den:Int)<0)),tW (aO (a.den:Int).natAbs),.b (decide (b.num<0)),tW (aO b.num.natAbs),.b (decide ((b.den:Int)<0)),tW (aO (b.den:Int).natAbs)]:=rfl
theorem aQe{a b:Rat}:TV.ag [.b (decide (a.num<0)),tW (aO a.num.natAbs),.b (decide ((a.den:Int)<0)),tW (aO (a.den:Int).natAbs),.b (decide (b.num<0)),tW (aO b.num.natAbs),.b (decide ((b.den:Int)<0)),tW (aO (b.den:Int).natAbs)]=tV a b:=rfl
theorem bGh(a b:Rat):cQ (tV a b):=cQ.ag (Can.app (aGx a) (aGx b))
theorem bHP(a b:Rat):cV (tV a b)=18:=by simp only[tV,cR,bKm,bKA,cV,bT,fK]
theorem aSu{s:VS}{a b:Rat}:dJ s [tV a b]=some (tV a b,false):=tN (bGh a b) (by rw[bHP];decide)
theorem TQV:type_of%(ab @fV0 (ab @fV1 (ab @pV0 (ab @pV1 (ab @zV (ab @bV (ab @kV (ab @aV (ab @sV (ab @aPs (ab @aQe (@aSu)))))))))))):=(ab @fV0 (ab @fV1 (ab @pV0 (ab @pV1 (ab @zV (ab @bV (ab @kV (ab @aV (ab @sV (ab @aPs (ab @aQe (@aSu))))))))))))
theorem bCD:bO PG 128 f128 [2] []=true:=by kernel_rfl
theorem bDT{a:List Rat}{k:Nat}(h:gN k a):VX (m+13) 128 [tP a]=some (tV (-iW a) (iW a),false):=by
 have G:=h.k9
 have c1:=bFQ (m:=m) h.wd h.len (by omega)
 have fb:FR 74900 (iW a):=qY (aEP h.wd) (by omega)
 have c2:=aK9 (m:=m+8) (q:=iW a) (fb.mono (by decide))
 refine bX rfl func128 bCD rfl ?_
 simp only[f128,N1,bC,bF,bH,bG,bE,zB,zG]
 simp (disch:=first|rfl|omega)only[S1,aD,zB,reduceCtorEq,zD,zG,zH,aU,TQV,vJ 210 rfl,c1 _,c2 _]
theorem bEv{a:List Rat}{k:Nat}(h:gN k a):CC (VX (m+13)) 128 [tP a] (tV (-iW a) (iW a)):= .of (iM a) (jD a) (bDT h)
theorem bDn(z:Int):Rat.divInt z ((1:Nat):Int)=(z:Rat):=by
 rw[Rat.divInt_ofNat]
 exact Rat.mkRat_self (z:Rat)
theorem aZW:bO PG 89 f89 [2] []=true:=by kernel_rfl
theorem bCB{l:List (Bool×List Nat)}(h:l.length<=1000)(g:∀x∈l,bD x.2)(c:∀x∈l,aX 150000 (val x.2))(i:∀x∈l,eA x=true):VX (m+10) 89 [eV l]=some (tP (dP (l.map cE)),false):=by
 have c1:=aD8 (m:=m+6) (z:=((1:Nat):Int)) (by decide) (by decide)
 refine jR rfl func89 aZW rfl ?_
 simp only[f89,N1,bC,bF,bH,bG,bE,zB,zG]
 simp (disch:=first|rfl|omega)only[S1,aN,aC,aE,aM,aJ,zB,TF]
 refine .up (fun j e s=>∃v,e 3=some v/\e 8=some (eV l)/\e 9=some (.int .i64 (l.length:Nat))/\e 10=some (.int .i64 (j:Nat))/\fM bP dZ s v (dP ((l.take j).map cE))) l.length ?_ (dB (by omega)) ?_
 ·refine⟨.nil, ?_, ?_, ?_, ?_,.nil _⟩<;>simp (disch:=first|rfl|omega)only[S1,zB]
 ·rintro j e s d ⟨v,u,y,A,f,n⟩
  have o:(dP ((l.take j).map cE)).length=j:=by rw[xY,bKo,bJO];omega
  by_cases hc:j<l.length
  ·have h1:decide (j<l.length)=true:=ak hc
   obtain⟨x,hx⟩:∃x,x=l.getD j (false,[]):=⟨_,rfl⟩
   have p:x∈l:=by rw[hx];exact zU hc
   have B:=tT (g x p) (i x p)
   have C:(tX x).cells=(tI (cE x)).cells:=congrArg TV.cells B
   have c2:=bEG (m:=m) (z:=cE x) (w:=((1:Nat):Int)) (by rw[qV];exact c x p) (aX.one (by decide)) (by decide)
   rw[bDn]at c2
   have r:fM bP dZ ((((s.new [.b false,.nil]).set s.nxt ⟨0,[.b (decide (cE x<0)),tW (aO (cE x).natAbs)]⟩).new [.b false,.nil,.b false,.nil]).set (s.nxt+1) ⟨0,cR ((cE x:Int):Rat)⟩) v (dP ((l.take j).map cE)):=⟨n.bld.keep (by show s.nxt<=s.nxt+1+1;omega) (fun j d=>by
    have D:(j==s.nxt)=false:=by rw[ao];omega
    have E:(j==s.nxt+1)=false:=by rw[ao];omega
    rw[gX,gY,nE,tK,gX,gY,D,E];rfl),bJJ _,fun j d=>absurd d (bKM j),fun _ _ _ _ _=>bJJ _⟩
   obtain⟨v',s',ea,t⟩:=r.stepR ((cE x:Int):Rat) (by omega)
   simp only[cR,nE,tK]at ea
   simp (disch:=first|rfl|omega)only[S1,aK,aC,aE,aM,aJ,aD,zB,reduceCtorEq,zD,zE,zH,aU,TI,u,y,A,f,h1,pD,pI,←hx,B,c1 _,c2 _,ea]
   refine⟨hc,v',rfl, ?_⟩
   have et:l.take (j+1)=l.take j++[x]:=by rw[bLd hc,hx];simp [hc]
   rw[et,bL6]
   unfold dP
   rw[bL6]
   exact⟨t.bld,bJJ _,fun j d=>absurd d (bKM j),fun _ _ _ _ _=>bJJ _⟩
  ·have h1:decide (j<l.length)=false:=ai hc
   obtain rfl:j=l.length:=by omega
   rw[bKp]at n o
   have F:=n.bld.ret (show(dP (l.map cE)).length*9+1<=cL by have:cL=100000000:=rfl;omega)
   simp (disch:=first|rfl|omega)only[S1,zB,reduceCtorEq,u,A,f,h1]
   rw[F];rfl
theorem bBG{l:List (Bool×List Nat)}(h:l.length<=1000)(g:∀x∈l,bD x.2)(c:∀x∈l,aX 150000 (val x.2))(i:∀x∈l,eA x=true):CC (VX (m+10)) 89 [eV l] (tP (dP (l.map cE))):= .of (aTs l) (aS6 l) (bCB h g c i)
end
end Ev
section
open Go Go.RowKit
def Ret(w:bR3)(R:bR4->bR3->Prop)(e:Ending)(w':bR3):Prop:=∃v,e= .returned v/\R v w'/\Below w.heap.size w w'
abbrev bY(w w':bR3):Prop:=Below w.heap.size w w'
theorem bY.refl(w:bR3):bY w w:=Below.refl _ _
theorem bY.trans{a b c:bR3}(h:bY a b)(k:bY b c):bY a c:=Below.trans h (k.mono h.size)
theorem bY.drew(w:bR3):bY w w.drew:=(Below.refl _ _).drew
theorem bY.drewN(w:bR3)(n:Nat):bY w (w.drewN n):=⟨rfl,rfl,rfl,bJE _,fun _ _=>rfl⟩
theorem bY.alloc(w:bR3)(o:Obj):bY w (w.alloc o):=(Below.refl _ _).alloc (bJE _) o
theorem bY.pdrew{w a:bR3}(h:bY w a):bY w a.drew:=h.trans (bY.drew a)
theorem bY.pdrewN{w a:bR3}(h:bY w a)(n:Nat):bY w (a.drewN n):=h.trans (bY.drewN a n)
theorem bY.palloc{w a:bR3}(h:bY w a)(o:Obj):bY w (a.alloc o):=h.trans (bY.alloc a o)
theorem bY.pset{w a:bR3}(h:bY w a){p:bRb}(r:w.heap.size<=p.block)(u:bR4):bY w (a.setCell p u):=Below.setCell h r u
theorem bY.cell{w w':bR3}(h:bY w w'){p:bRb}(r:p.block<w.heap.size):w'.cell? p=w.cell? p:=Below.cell h r
theorem Below.heap_new(w:bR3)(o:Obj):(w.alloc o).heap[w.heap.size]? =some o:=by
 show(w.heap.push o)[w.heap.size]? =_
 simp
def jU(w:bR3)(v:bR4)(xs:List Nat):Prop:=
 ∃(A:Option bRb) (c:Nat),v= .slice A xs.length c/\xs.length<=c/\xs.length<=35184372088832/\bD xs/\
  (0<xs.length->∃b off:Nat,A=some ⟨b,off,none⟩/\b<w.heap.size/\∀k,k<xs.length->w.cell? ⟨b,off+k,none⟩=some (.int .u32 ((xs.getD k 0:Nat):Int)))
theorem jU.ext{w w':bR3}{v:bR4}{xs:List Nat}(h:jU w v xs)(hx:bY w w'):jU w' v xs:=by
 obtain⟨A,c,f,l,m,i,hc⟩:=h
 refine⟨A,c,f,l,m,i,fun s=> ?_⟩
 obtain⟨b,off,D,q,C⟩:=hc s
 exact⟨b,off,D,bJK q hx.size,fun k y=>(hx.cell (p:=⟨b,off+k,none⟩) q).trans (C k y)⟩
theorem jU.limb{w:bR3}{v:bR4}{xs:List Nat}(h:jU w v xs):bD xs:=by
 obtain⟨_,_,_,_,_,i,_⟩:=h;exact i
theorem jU.nil(w:bR3):jU w (.slice none 0 0) []:=⟨none,0,rfl,bJE _,by simp,bD.nil,fun h=>by simp at h⟩
def gZ(xs:List Nat):List bR4:=xs.map fun(x:Nat)=>Value.int .u32 (x:Int)
section
variable {w w':bR3}{g:Nat}{xs:List Nat}
end
def aAS(w:bR3)(g:Nat):Prop:=∀j n,w.cell? ⟨g,j,none⟩≠some (.int .u32 n)
theorem aAS.ext{w w':bR3}{g:Nat}(E:aAS w g)(z:g<w.heap.size)(hx:bY w w'):aAS w' g:=fun j n=>by
 rw[hx.cell (p:=⟨g,j,none⟩) z];exact E j n
theorem aAS.new(w:bR3)(cs:Array bR4)(t:TypeId)(h:∀u∈cs,∀n,u≠ .int .u32 n):aAS (w.alloc (.cells cs t)) w.heap.size:=by
 intro j n e
 have h1:(w.alloc (.cells cs t)).heap[w.heap.size]? =some (.cells cs t):=Below.heap_new w _
 simp only[World.cell?,h1,Option.isSome_none,Bool.false_eq_true,if_false]at e
 exact h _ (Array.mem_of_getElem? e) n rfl
theorem jU.at_{w:bR3}{A:Option bRb}{n c:Nat}{xs:List Nat}(h:jU w (.slice A n c) xs){k:Nat}(C:k<n):
  ∃b off,A=some ⟨b,off,none⟩/\b<w.heap.size/\n=xs.length/\∀j,j<n->w.cell? ⟨b,off+j,none⟩=some (.int .u32 ((xs.getD j 0:Nat):Int)):=by
 obtain⟨A',c',f,l,m,i,hc⟩:=h
 obtain⟨rfl,rfl,rfl⟩:A=A'/\n=xs.length/\c=c':=by injection f with h1 h2 B;exact⟨h1,h2,B⟩
 obtain⟨b,off,rfl,q,d⟩:=hc (by omega)
 exact⟨b,off,rfl,q,rfl,d⟩
theorem jU.len{w:bR3}{A:Option bRb}{n c:Nat}{xs:List Nat}(h:jU w (.slice A n c) xs):n=xs.length/\n<=c/\n<=35184372088832:=by
 obtain⟨A',c',f,l,m,i,hc⟩:=h
 obtain⟨rfl,rfl,rfl⟩:A=A'/\n=xs.length/\c=c':=by injection f with h1 h2 B;exact⟨h1,h2,B⟩
 exact⟨rfl,l,m⟩
end
namespace Ev
section
open Go Go.RowKit Go.Shelf
attribute [local go_sem] Oper.semAt_some
theorem bB8(F:Fence)(n:Nat)(h5:F.fn 276)(hro:F.round=none)(a:Option bRb)(len cap:Nat)(w:bR3):
  CallsIn F n prog 276 #[.slice a len cap] w fun e w'=>e= .returned (.func (.func 301) #[] #[.pointer (some ⟨w.heap.size,0,none⟩)])/\w'=w.alloc (.cells #[.slice a len cap] 35):=by
 refine callsIn_of_wp func276 rfl h5 ?_ hro
 simp only[ntmps276,bLi,bJN,bKf,bLX,bLY,bLZ,bM0,bM1,bM2,bKA,bKm]
 gi_wp2
 go_ret
 exact⟨rfl,rfl⟩
def aCP(w:bR3)(b o:Nat)(u:Nat->bR4):Prop:=w.cell? ⟨b,o,none⟩=some (u 0)/\w.cell? ⟨b,o+1,none⟩=some (u 1)/\w.cell? ⟨b,o+2,none⟩=some (u 2)/\w.cell? ⟨b,o+3,none⟩=some (u 3)
def aHm(u:Nat->bR4):bR4:= .agg #[u 0,u 1,u 2,u 3]
def KpR(n₀ Bs:Nat)(A B:bR3):Prop:=Below n₀ A B/\∀v,A.cell? ⟨Bs,0,none⟩=some v->B.cell? ⟨Bs,0,none⟩=some v
set_option maxRecDepth 100000 in
set_option maxHeartbeats 2000000 in
theorem bGM(F:Fence)(n:Nat)(hf:F.fn 301)(hro:F.round=none)(hn:1<=n)(l Bs n₀:Nat)(A:Option bRb)(c N:Nat)(us:Nat->Nat->bR4)(hlen:N<=35184372088832)(J Jx:List Nat->bR3->Prop)
  (hY:∀pre k W,J pre W->pre.length<N->k+pre.length+1=N->YieldAt F (n-1) prog l #[.int .i64 (k:Int),aHm (us k)] W fun e W'=>
   (e= .returned (.bool true)/\J (pre++[k]) W'/\KpR n₀ Bs W W')\/(e= .returned (.bool false)/\Jx (pre++[k]) W'))
  (W:bR3) (hBs:W.cell? ⟨Bs,0,none⟩=some (.slice A N c)) (hc:0<N->∃b off:Nat,A=some ⟨b,off,none⟩/\b<n₀/\∀j,j<N->aCP W b (off+j*4) (us j)) (h0:J [] W):
  CallsIn F n prog 301 #[.func (.yield l) #[] #[],.pointer (some ⟨Bs,0,none⟩)] W fun e W'=>(∃v,e= .returned v)/\
   ((∃ys:List Nat,ys=(bKj N).reverse/\J ys W')\/(∃pre,True/\Jx pre W')):=by
 refine callsIn_of_wp func301 rfl hf ?_ hro
 simp only[ntmps301,bLi,bJN,bKf,bLX,bLY,bLZ,bM0,bM1,bM2,bKA,bKm]
 have HC:=br hc
 clear hc
 gi_wp2
 gi_loopw [3] (fun i wr=>∃j:Nat,j<=N/\i= .int .i64 ((j:Int)-1)/\∃pre,Hid (pre=((bKj N).drop j).reverse)/\J pre wr/\Hid (KpR n₀ Bs W wr))
  (fun i _=>(intOf i+1).toNat)
 case atStart=>exact⟨N,bJE _,rfl,[],by simp [Hid],h0,⟨Below.refl _ _,fun _ h=>h⟩⟩
 case round=>
  obtain⟨j,hj,rfl,pre,HP,hJs,HK⟩:=hrel
  have hbx:=HK.out.2 _ hBs
  by_cases hlt:0<j
  ·obtain⟨k,rfl⟩:∃k,j=k+1:=⟨j-1,by omega⟩
   obtain⟨b,off,rfl,hb,hcell⟩:=HC.out (by omega)
   obtain⟨c0,c1,c2,c3⟩:=hcell k (by omega)
   have k0:wr.cell? ⟨b,off+k*4,none⟩=some (us k 0):=(HK.out.1.cell (p:=⟨b,off+k*4,none⟩) hb).trans c0
   have k1:wr.cell? ⟨b,off+k*4+1,none⟩=some (us k 1):=(HK.out.1.cell (p:=⟨b,off+k*4+1,none⟩) hb).trans c1
   have k2:wr.cell? ⟨b,off+k*4+2,none⟩=some (us k 2):=(HK.out.1.cell (p:=⟨b,off+k*4+2,none⟩) hb).trans c2
   have k3:wr.cell? ⟨b,off+k*4+3,none⟩=some (us k 3):=(HK.out.1.cell (p:=⟨b,off+k*4+3,none⟩) hb).trans c3
   clear c0 c1 c2 c3
   have hpl:pre.length+(k+1)=N:=by
    have:=congrArg bKU HP.out
    simp at this;omega
   obtain⟨fn,tmps,assign,body,hy,hR⟩:=hY _ k wr hJs (by omega) (by omega)
   dsimp only[aHm]at hy
   have HD:Hid ((pre++[k])=((bKj N).drop k).reverse):=by
    show _=_
    rw[bLx (show k<(bKj N).length by rw[bMB];omega),bME,bN6]
    exact congrArg (· ++[k]) HP.out
   clear hcell HC
   have hik:(((k+1:Nat):Int))-1=(k:Int):=by omega
   rw[hik]at*
   generalize us k 0=u0 at*
   generalize us k 1=u1 at*
   generalize us k 2=u2 at*
   generalize us k 3=u3 at*
   gi_wp2
   refine hR.mono ?_
   rintro e W3 (⟨rfl,hJ3,hk3⟩|⟨rfl,hJx3⟩)
   ·gi_wp2
    go_roundw
    case rel=>exact⟨k,by omega,rfl,_,HD,hJ3,⟨HK.out.1.trans hk3.1,fun v hv=>hk3.2 v (HK.out.2 v hv)⟩⟩
    case measure=>simp [intOf]
   ·gi_wp2
    refine bodyPost_ret (results_none rfl _ _ _) rfl ?_
    exact⟨⟨_,rfl⟩,.inr ⟨_,trivial,hJx3⟩⟩
  ·obtain rfl:j=0:=by omega
   gi_wp2
   go_end0
   exact⟨⟨_,rfl⟩,.inl ⟨pre,by have:=HP.out;simpa using this,hJs⟩⟩
theorem bIq{n₀ Bs:Nat}{A B C:bR3}(h:KpR n₀ Bs A B)(k:KpR n₀ Bs B C):KpR n₀ Bs A C:=⟨h.1.trans k.1,fun v hv=>k.2 v (h.2 v hv)⟩
theorem aNV{n₀:Nat}{W:bR3}{l:Nat}(o:Obj)(h:n₀<=l):Below n₀ W (W.putObj l o):=⟨rfl,rfl,rfl,by simp,fun k hk=>World.putObj_heap_other (by omega)⟩
theorem bIK{n₀ Bs:Nat}{w:bR3}(h1:n₀<=w.heap.size)(h2:Bs<w.heap.size)(W:bR3)(l:Nat)(o o':Obj)(a:w.heap.size<=l)(_:W.heap[l]? =some o)(_:o.isCells=false)(_:o.isWalk=false):KpR n₀ Bs W (W.putObj l o'):=by
 have h:=aNV (W:=W) (n₀:=w.heap.size) o' a
 exact⟨h.mono h1,fun v hv=>(h.cell (p:=⟨Bs,0,none⟩) h2).trans hv⟩
theorem aZy(F:Fence)(n:Nat)(hf:F.fn 301)(hro:F.round=none)(hn:1<=n)(Bs n₀:Nat)(A:Option bRb)(c N:Nat)(us:Nat->Nat->bR4)(w:bR3)(hBs:Bs<w.heap.size)(hn₀:n₀<=w.heap.size)
  (hc:w.cell? ⟨Bs,0,none⟩=some (.slice A N c)) (hlen:N<=35184372088832) (hI:0<N->∃b off:Nat,A=some ⟨b,off,none⟩/\b<n₀/\∀j,j<N->aCP w b (off+j*4) (us j)):
  SeqStopsK F n prog 301 #[.pointer (some ⟨Bs,0,none⟩)] (fun x:Fin N=> #[Value.int .i64 (x.1:Int),aHm (us x.1)]) (KpR n₀ Bs) (fun ys=>ys.map (·.1)=(bKj N).reverse) (fun _=>True) N w:=fun l J Jx W hW _ _ hY h0=>by
 have hc':=(hW.cell (p:=⟨Bs,0,none⟩) hBs).trans hc
 refine(bGM F n hf hro hn l Bs n₀ A c N us hlen (fun pre W=>∃pf:List (Fin N),pf.map (·.1)=pre/\J pf W) (fun pre W=>∃pf:List (Fin N),pf.map (·.1)=pre/\Jx pf W) ?_ W hc' (fun h=> ?_) ⟨[],rfl,h0⟩).mono ?_
 ·rintro pre k W1 ⟨pf,rfl,hJ⟩ hl hk
  rw[bKo]at hl hk
  have h:=hY pf ⟨k,by omega⟩ W1 hJ hl
  refine h.mono ?_
  rintro e W' (⟨rfl,h1,h2⟩|⟨rfl,h1⟩)
  ·exact .inl ⟨rfl,⟨_,by rw[bL6];rfl,h1⟩,h2⟩
  ·exact .inr ⟨rfl,⟨_,by rw[bL6];rfl,h1⟩⟩
 ·obtain⟨b,off,e,hb,hcell⟩:=hI h
  have hcl:∀ {o:Nat},W.cell? ⟨b,o,none⟩=w.cell? ⟨b,o,none⟩:=fun {o}=>hW.cell (p:=⟨b,o,none⟩) (bJK hb hn₀)
  exact⟨b,off,e,hb,fun j hj=>by
   obtain⟨c0,c1,c2,c3⟩:=hcell j hj
   exact⟨hcl.trans c0,hcl.trans c1,hcl.trans c2,hcl.trans c3⟩⟩
 ·rintro e W' ⟨hv,⟨ys,rfl,pf,hp,hJ⟩|⟨pre, -,pf,hp,hJ⟩⟩
  ·exact⟨hv,.inl ⟨pf,hp,hJ⟩⟩
  ·exact⟨hv,.inr ⟨pf,trivial,hJ⟩⟩
end
section
open Go Go.RowKit Go.Shelf
attribute [local go_sem] Oper.semAt_some
structure RV where
 b:Bool
 a:Option bRb
 n:Nat
 c:Nat
 b':Bool
 a':Option bRb
 n':Nat
 c':Nat
def RV.u(r:RV):Nat->bR4
 |0=> .bool r.b
 |1=> .slice r.a r.n r.c
 |2=> .bool r.b'
 |_=> .slice r.a' r.n' r.c'
abbrev RV.v(r:RV):bR4:= .agg #[.bool r.b,.slice r.a r.n r.c,.bool r.b',.slice r.a' r.n' r.c']
theorem aU6{w:bR3}{v:bR4}{xs:List Nat}(h:WT w v (tW xs)):∃a n c,v= .slice a n c:=by
 unfold tW tL at h
 split at h<;>cases h<;>exact⟨_,_,_,rfl⟩
theorem aCA{w:bR3}{v:bR4}{q:Rat}(h:WT w v (tR q)):∃r:RV,v=r.v:=by
 unfold tR cR at h
 cases h with
 |ag h=>
  cases h with |cons h0 h=>
  cases h with |cons h1 h=>
  cases h with |cons h2 h=>
  cases h with |cons h3 h=>
  cases h
  cases h0
  cases h2
  obtain⟨a,n,c,rfl⟩:=aU6 h1
  obtain⟨a',n',c',rfl⟩:=aU6 h3
  exact⟨⟨_,a,n,c,_,a',n',c'⟩,rfl⟩
def dO:Obj:= .deferred (some [])
mutual
theorem WT.sub{w w':bR3}(hx:∀(p:Nat) cs el fz,w.heap[p]? =some (.cells cs el fz)->w'.heap[p]? =some (.cells cs el fz)){v:bR4}{t:TV}(h:WT w v t):WT w' v t:=by
 cases h with
 |b x=>exact .b x
 |int k z=>exact .int k z
 |str x=>exact .str x
 |lit h=>exact .lit h
 |err t v=>exact .err t v
 |u=>exact .u
 |nil=>exact .nil
 |imn=>exact .imn _
 |im0=>exact .im0 _ _ _
 |im hp hl hs hc=>exact .im (hx _ _ _ _ hp) hl hs (dF.sub hx hc)
 |e0 hp hs=>exact .e0 (hx _ _ _ _ hp) hs
 |fn ha hb=>exact .fn (dF.sub hx ha) (dF.sub hx hb)
 |ag h=>exact .ag (dF.sub hx h)
 |tp h=>exact .tp (dF.sub hx h)
 |emn=>exact .emn
 |ems=>exact .ems _ _
theorem dF.sub{w w':bR3}(hx:∀(p:Nat) cs el fz,w.heap[p]? =some (.cells cs el fz)->w'.heap[p]? =some (.cells cs el fz)){v:List bR4}{t:List TV}(h:dF w v t):dF w' v t:=by
 cases h with
 |nil=>exact .nil
 |cons h hl=>exact .cons (WT.sub hx h) (dF.sub hx hl)
end
theorem WT.back{w:bR3}{b:Nat}{v:bR4}{t:TV}(h:WT (w.putObj b dO) v t):WT w v t:=by
 refine h.sub fun p cs el fz e=> ?_
 by_cases hp:p=b
 ·subst hp
  by_cases hb:p<w.heap.size
  ·rw[show(w.putObj p dO).heap[p]? =some dO by simp [World.putObj,hb]]at e;cases e
  ·rw[bMk (by simpa [World.putObj]using hb)]at e;cases e
 ·rwa [World.putObj_heap_other hp]at e
def gK(W:bR3)(b:Nat)(r:RV):Prop:=W.heap[b]? =some (.cells #[.bool r.b,.slice r.a r.n r.c,.bool r.b',.slice r.a' r.n' r.c'] 78)
theorem gK.cells{W:bR3}{b:Nat}{r:RV}(h:gK W b r):W.cell? ⟨b,0,none⟩=some (.bool r.b)/\W.cell? ⟨b,1,none⟩=some (.slice r.a r.n r.c)/\W.cell? ⟨b,2,none⟩=some (.bool r.b')/\W.cell? ⟨b,3,none⟩=some (.slice r.a' r.n' r.c'):=by
 unfold gK at h
 refine⟨?_, ?_, ?_, ?_⟩<;>simp [World.cell?,h]
theorem gK.frozen{W:bR3}{b:Nat}{r:RV}(h:gK W b r)(j:Nat):W.frozen? ⟨b,j,none⟩=false:=by
 unfold gK at h
 simp [World.frozen?,h]
theorem gK.new(W:bR3)(r:RV):gK (W.alloc (.cells #[.bool r.b,.slice r.a r.n r.c,.bool r.b',.slice r.a' r.n' r.c'] 78)) W.heap.size r:=World.alloc_heap_new _ _
theorem gK.lt{W:bR3}{b:Nat}{r:RV}(h:gK W b r):b<W.heap.size:=(bLm.1 h).1
theorem gK.below{W W':bR3}{b B:Nat}{r:RV}(h:gK W b r)(k:Below B W W')(hb:b<B):gK W' b r:=by
 unfold gK at h ⊢
 rw[k.block b hb];exact h
theorem aMW{W W':bR3}:∀ {xs:List Nat} {vs:List bR4},dF W vs (xs.map wc)->dF W' vs (xs.map wc)
 | [],vs,h=>by cases h;exact .nil
 |x::xs,vs,h=>by
  rw[bKc]at h ⊢
  cases h with |cons h0 h=>
  cases h0
  exact .cons (.int _ _) (aMW h)
theorem aRU{W:bR3}{b:Nat}{r:RV}{xs:List Nat}{v:bR4}(hb:gK W b r)(h:WT W v (tW xs)):WT (W.putObj b dO) v (tW xs):=by
 cases xs with
 |nil=>
  change WT W v .em at h
  change WT _ v .em
  cases h
  ·exact .emn
  ·exact .ems _ _
 | cons x xs=>
  change WT W v (.im 1 ((x::xs).map wc))at h
  change WT _ v (.im 1 ((x::xs).map wc))
  cases h with
  | im hp hl hs hc=>
   rename_i p off len c cs el fr
   refine .im (p:=p) (cs:=cs) (el:=el) (fr:=fr) ?_ hl hs (aMW hc)
   have hne:p≠b:=by
    rintro rfl
    unfold gK at hb
    rw[hb]at hp
    injection hp with hp
    injection hp with h1 h2 h3
    subst h1
    rw[bKc]at hc
    generalize he:(List.drop off _).take (len*1)=vs at hc
    cases hc with |cons h0 hc=>
    cases h0
    have hm:=List.mem_of_mem_drop (bM6 (show _∈_ from he ▸ bKn))
    simp at hm
   rw[World.putObj_heap_other hne];exact hp
theorem aUF{w w':bR3}{v:bR4}{y:Bool}(h:WT w v (.b y)):WT w' v (.b y):=by cases h;exact .b _
def qF(b:Nat)(W:bR3)(r:RV)(q:Rat):Prop:=WT (W.putObj b dO) r.v (tR q)
theorem qF.mk{W:bR3}{b:Nat}{r r':RV}{q:Rat}(hb:gK W b r')(h:WT W r.v (tR q)):qF b W r q:=by
 unfold qF
 unfold tR cR at h ⊢
 cases h with
 |ag h=>
  cases h with |cons h0 h=>
  cases h with |cons h1 h=>
  cases h with |cons h2 h=>
  cases h with |cons h3 h=>
  cases h
  refine .ag (.cons ?_ (.cons (aRU hb h1) (.cons ?_ (.cons (aRU hb h3) .nil))))
  ·exact aUF h0
  ·exact aUF h2
theorem qF.step{W W':bR3}{b:Nat}{r:RV}{q:Rat}(hx:∀(p:Nat) cs el fz,p≠b->W.heap[p]? =some (.cells cs el fz)->W'.heap[p]? =some (.cells cs el fz))(h:qF b W r q):qF b W' r q:=by
 refine WT.sub (fun p cs el fz e=> ?_) h
 by_cases hp:p=b
 ·subst hp
  by_cases hb:p<W.heap.size
  ·rw[show(W.putObj p dO).heap[p]? =some dO by simp [World.putObj,hb]]at e;cases e
  ·rw[bMk (by simpa [World.putObj]using hb)]at e;cases e
 ·rw[World.putObj_heap_other hp]at e ⊢
  exact hx p cs el fz hp e
theorem qF.wt{W:bR3}{b:Nat}{r:RV}{q:Rat}(h:qF b W r q):WT W r.v (tR q):=WT.back h
def rJ(W:bR3)(b:Nat)(r:RV):bR3:=(((W.setCell ⟨b,0,none⟩ (.bool r.b)).setCell ⟨b,1,none⟩ (.slice r.a r.n r.c)).setCell ⟨b,2,none⟩ (.bool r.b')).setCell ⟨b,3,none⟩ (.slice r.a' r.n' r.c')
theorem aD7{W:bR3}{b:Nat}{r:RV}{p:Nat}(hp:p≠b):(rJ W b r).heap[p]? =W.heap[p]? :=by
 unfold rJ
 rw[Below.heap_setCell _ _ _ _ hp,Below.heap_setCell _ _ _ _ hp,Below.heap_setCell _ _ _ _ hp,Below.heap_setCell _ _ _ _ hp]
theorem aGb{W:bR3}{b j:Nat}{cs:Array bR4}{T:TypeId}{v:bR4}(h:W.heap[b]? =some (.cells cs T)):(W.setCell ⟨b,j,none⟩ v).heap[b]? =some (.cells (cs.setIfInBounds j v) T):=by
 obtain⟨hb,he⟩:=bLm.1 h
 simp [World.setCell,hb,Array.getElem_modify,he]
theorem aPG{W:bR3}{b:Nat}{r r':RV}(h:gK W b r'):gK (rJ W b r) b r:=by
 have h1:=aGb (j:=0) (v:= .bool r.b) h
 have h2:=aGb (j:=1) (v:= .slice r.a r.n r.c) h1
 have h3:=aGb (j:=2) (v:= .bool r.b') h2
 exact aGb (j:=3) (v:= .slice r.a' r.n' r.c') h3
theorem aKs{w:bR3}:∀ {vs:List bR4} {ts:List TV},dF w vs ts->vs.length=ts.length/\∀(i:Nat) t,ts[i]? =some t->∃v,vs[i]? =some v/\WT w v t
 | [],_,h=>by cases h;exact⟨rfl,fun i t e=>by simp at e⟩
 |v::vs,_,h=>by
  cases h with |cons h0 h=>
  obtain⟨h1,h2⟩:=aKs h
  refine⟨by simp [h1],fun i t e=> ?_⟩
  cases i with
  |zero=>simp at e;subst e;exact⟨v,rfl,h0⟩
  |succ i=>simp at e;exact h2 i t e
theorem bFd{w:bR3}{A:Option bRb}{c:Nat}{l:List Rat}(h:WT w (.slice A l.length c) (tP l)):∃rs:Nat->RV,(0<l.length->∃b off:Nat,A=some ⟨b,off,none⟩/\b<w.heap.size/\∀j,j<l.length->aCP w b (off+j*4) (rs j).u)/\∀j,j<l.length->WT w (rs j).v (tR (co l j)):=by
 cases l with
 |nil=>exact⟨fun _=>⟨false,none,0,0,false,none,0,0⟩,fun h=>absurd h (bKl 0),fun j h=>absurd h (bKM j)⟩
 | cons q l=>
  generalize hL:q::l=L at*
  have hne:bP.row L≠ []:=by rw[←hL,EC.row_cons];intro e;cases e
  have hh:WT w (.slice A L.length c) (.im 4 (bP.row L)):=by
   have e:tP L= .im 4 (bP.row L):=by
    show tL 4 (bP.row L)=_
    unfold tL
    split
    ·exact absurd ‹_› hne
    ·next he=>rw[he]
   rw[e]at h;exact h
  generalize hR:bP.row L=R at hh
  generalize hN:L.length=N at hh
  cases hh with
  |imn=>exact absurd hR hne
  |im0=>exact absurd hR hne
  | im hp hl hs hc=>
   rename_i p off cs el fr
   subst hR
   subst hN
   obtain⟨_,hat⟩:=aKs hc
   have key:∀j,j<L.length->∃r:RV,aCP w p (off+j*4) r.u/\WT w r.v (tR (co L j)):=fun j hj=>by
    have hg:∀i,i<4->(bP.row L)[j*4+i]? =(cR (co L j))[i]? :=fun i hi=>EC.get (E:=bP) (l:=L) (j:=j) (o:=i) hj hi
    have hv:∀i,i<4->∀t,(cR (co L j))[i]? =some t->∃v,w.cell? ⟨p,off+j*4+i,none⟩=some v/\WT w v t:=fun i hi t ht=>by
     obtain⟨v,h1,h2⟩:=hat (j*4+i) t ((hg i hi).trans ht)
     refine⟨v, ?_,h2⟩
     rw[bMS (by have:=bK8 4 (show j+1<=L.length from hj);omega),bLf]at h1
     simp only[World.cell?,hp]
     rw[show off+j*4+i=off+(j*4+i) by omega]
     simpa using h1
    obtain⟨v0,a0,b0⟩:=hv 0 (by decide) _ rfl
    obtain⟨v1,a1,b1⟩:=hv 1 (by decide) _ rfl
    obtain⟨v2,a2,b2⟩:=hv 2 (by decide) _ rfl
    obtain⟨v3,a3,b3⟩:=hv 3 (by decide) _ rfl
    have hW:WT w (.agg #[v0,v1,v2,v3]) (tR (co L j)):= .ag (.cons b0 (.cons b1 (.cons b2 (.cons b3 .nil))))
    obtain⟨r,hr⟩:=aCA hW
    injection hr with hr
    simp at hr
    obtain⟨rfl,rfl,rfl,rfl⟩:=hr
    exact⟨r,⟨a0,a1,a2,a3⟩,hW⟩
   have hr:∃rs:Nat->RV,∀j,j<L.length->aCP w p (off+j*4) (rs j).u/\WT w (rs j).v (tR (co L j)):=
    ⟨fun j=>if h:j<L.length then(key j h).choose else⟨false,none,0,0,false,none,0,0⟩,fun j h=>by simp only[dif_pos h];exact(key j h).choose_spec⟩
   obtain⟨rs,hrs⟩:=hr
   exact⟨rs,fun _=>⟨p,off,rfl,(bLm.1 hp).1,fun j hj=>(hrs j hj).1⟩,fun j hj=>(hrs j hj).2⟩
theorem aR1{W:bR3}{v:bR4}{t:TV}(h:WT W v t):WT W.drew v t:=WT.ext (w:=W) (w':=W.drew) (fun _ _=>rfl) h
theorem bC7{r:RV}:aHm r.u=r.v:=rfl
def qA(l:List Rat)(pre:List (Fin l.length)):List Rat:=(pre.map fun k=>co l k.1).reverse
theorem aZd{l:List Rat}{pre:List (Fin l.length)}{k:Fin l.length}:qA l (pre++[k])=co l k.1::qA l pre:=by
 unfold qA
 rw[bL6,List.reverse_append];rfl
theorem bBv{l:List Rat}{ys:List (Fin l.length)}(h:ys.map (·.1)=(bKj l.length).reverse):qA l ys=l:=by
 have h1:ys.map (fun k=>co l k.1)=(ys.map (·.1)).map (co l):=by rw[List.map_map];rfl
 unfold qA
 rw[h1,h,List.map_reverse,bNp]
 refine List.ext_getElem (by simp) fun i h1 h2=> ?_
 rw[List.getElem_map,bN6,wK h2]
theorem bDZ{l:List Rat}(pre:List (Fin l.length)):∀c∈qA l pre,c∈l:=fun c hc=>by
 unfold qA at hc
 rw[List.mem_reverse,bKP]at hc
 obtain⟨k,_,rfl⟩:=hc
 rw[wK k.2]
 exact bLR _
theorem bAO{l:List Rat}{pre:List (Fin l.length)}:(qA l pre).length=pre.length:=by unfold qA;simp
theorem aZT{W:bR3}{b:Nat}{r:RV}:(rJ W b r).heap.size=W.heap.size:=by unfold rJ;simp [World.setCell]
theorem aI9{W:bR3}{b B:Nat}{r:RV}(h:B<=b):Below B W (rJ W b r):=((((Below.refl B W).setCell (p:=⟨b,0,none⟩) h _).setCell (p:=⟨b,1,none⟩) h _).setCell (p:=⟨b,2,none⟩) h _).setCell (p:=⟨b,3,none⟩) h _
theorem aWX{W W2:bR3}{b:Nat}{r r2:RV}(hB:Below W.heap.size W W2)(hb:gK W b r):KeepsOthers W (rJ W2 b r2):=⟨by rw[aZT];exact hB.size,fun k o hk ho=>by
 have hlt:=(bLm.1 hk).1
 have hne:k≠b:=by
  rintro rfl
  rw[show W.heap[k]? =_ from hb]at hk
  cases hk;cases ho
 rw[aD7 hne,hB.block k hlt];exact hk⟩
theorem bDx{W W2:bR3}{b:Nat}{r2:RV}(hB:Below W.heap.size W W2)(hb:b+1<W.heap.size):KpR b (b+1) W (rJ W2 b r2):=⟨(hB.mono (by omega)).trans (aI9 (bJE _)),fun v hv=>by
 have h1:(rJ W2 b r2).cell? ⟨b+1,0,none⟩=W2.cell? ⟨b+1,0,none⟩:=World.cell?_of_block (aD7 (by show b+1≠b;omega))
 rw[h1]
 exact(hB.cell (p:=⟨b+1,0,none⟩) hb).trans hv⟩
structure EvC(l:List Rat)(x:Rat):Prop where
 zero:∀w,fZ w->Calls PG 43 #[.int .i64 0] w fun e w'=>∃v,e= .returned v/\Below w.heap.size w w'/\WT w' v (tR 0)
 mul:∀p:List Rat,(∀c∈p,c∈l)->p.length<l.length->∀w v v',fZ w->WT w v (tR (eO x p))->WT w v' (tR x)->Calls PG 142 #[v,v'] w fun e w'=>∃v,e= .returned v/\Below w.heap.size w w'/\WT w' v (tR (eO x p*x))
 add:∀(p:List Rat) (c:Rat),(∀c∈p,c∈l)->c∈l->p.length<l.length->∀w v v',fZ w->WT w v (tR (eO x p*x))->WT w v' (tR c)->Calls PG 200 #[v,v'] w fun e w'=>∃v,e= .returned v/\Below w.heap.size w w'/\WT w' v (tR (eO x p*x+c))
set_option maxRecDepth 100000 in
set_option maxHeartbeats 4000000 in
theorem bES{l:List Rat}{x:Rat}{A:Option bRb}{c:Nat}{rx:RV}{w:bR3}(htw:fZ w)(H:EvC l x)(hlen:l.length<=1000)
  (hl:WT w (.slice A l.length c) (tP l)) (hx:WT w rx.v (tR x)):
  Calls PG 213 #[.slice A l.length c,rx.v] w fun e w'=>∃v,e= .returned v/\Below w.heap.size w w'/\WT w' v (tR (eO x l)):=by
 have H:=br H
 obtain⟨rs,hR1,hR2⟩:=bFd hl
 have HR1:=br hR1
 have HR2:=br hR2
 clear hR1 hR2 hl
 refine(callsIn_wide (n:=5)).1 ?_
 refine callsIn_of_wp_marks func213 rfl trivial ?_ rfl
 simp only[ntmps213,RV.v,bLi,bJN,bKf,bLX,bLY,bLZ,bM0,bM1,bM2,bKA,bKm]
 gi_wp2_with fail
 refine⟨trivial,callsIn_wide.2 ((H.out.zero _ (htw.below (((Below.refl _ w).alloc (bJE _) _).alloc (by simp) _))).mono ?_)⟩
 rintro e w1 ⟨v0,rfl,hb1,hv1⟩
 obtain⟨r0,rfl⟩:=aCA hv1
 gi_wp2_with fail
 refine⟨trivial,(bB8 Fence.wide 4 trivial rfl _ _ _ _).mono ?_⟩
 rintro e w' ⟨rfl,rfl⟩
 gi_wp2_with fail
 have hs1:w.heap.size+2<=w1.heap.size:=by have:=hb1.size;simpa using this
 have hB1:Below w.heap.size w w1:=(((Below.refl _ w).alloc (bJE _) _).alloc (by simp) _).trans (hb1.mono (by simp;omega))
 have x1:gK w1 w.heap.size rx:=(((gK.new w rx).below ((Below.refl _ _).alloc (bJE _) (.cells #[.bool false,.slice none 0 0,.bool false,.slice none 0 0] 78)) (by simp))).below hb1 (by simp;omega)
 have z1:gK w1 (w.heap.size+1) ⟨false,none,0,0,false,none,0,0⟩:=by
  have h:=gK.new (w.alloc (.cells #[.bool rx.b,.slice rx.a rx.n rx.c,.bool rx.b',.slice rx.a' rx.n' rx.c'] 78)) ⟨false,none,0,0,false,none,0,0⟩
  have h2:=h.below hb1 (by simp)
  rwa [World.size_alloc]at h2
 have e1:Below w1.heap.size w1 ((w1.alloc (.cells #[.bool r0.b,.slice r0.a r0.n r0.c,.bool r0.b',.slice r0.a' r0.n' r0.c'] 78)).alloc (.cells #[.slice A l.length c] 35)):=((Below.refl _ _).alloc (bJE _) _).alloc (by simp) _
 have y3:gK ((w1.alloc (.cells #[.bool r0.b,.slice r0.a r0.n r0.c,.bool r0.b',.slice r0.a' r0.n' r0.c'] 78)).alloc (.cells #[.slice A l.length c] 35)) w1.heap.size r0:=(gK.new w1 r0).below ((Below.refl _ _).alloc (bJE _) _) (by simp)
 have s3:((w1.alloc (.cells #[.bool r0.b,.slice r0.a r0.n r0.c,.bool r0.b',.slice r0.a' r0.n' r0.c'] 78)).alloc (.cells #[.slice A l.length c] 35)).cell? ⟨w1.heap.size+1,0,none⟩=some (.slice A l.length c):=by
  have h:=(Boxed.new (w1.alloc (.cells #[.bool r0.b,.slice r0.a r0.n r0.c,.bool r0.b',.slice r0.a' r0.n' r0.c'] 78)) 35 (.slice A l.length c)).cell
  rwa [World.size_alloc]at h
 have n3:((w1.alloc (.cells #[.bool r0.b,.slice r0.a r0.n r0.c,.bool r0.b',.slice r0.a' r0.n' r0.c'] 78)).alloc (.cells #[.slice A l.length c] 35)).heap.size=w1.heap.size+2:=by simp
 have v3:WT ((w1.alloc (.cells #[.bool r0.b,.slice r0.a r0.n r0.c,.bool r0.b',.slice r0.a' r0.n' r0.c'] 78)).alloc (.cells #[.slice A l.length c] 35)) r0.v (tR 0):=hv1.ext e1.block
 have B3:=hB1.trans (e1.mono (by omega))
 have x3:=x1.below e1 x1.lt
 have z3:=z1.below e1 z1.lt
 have o3:=qF.mk y3 v3
 clear x1 z1 e1 hv1 v3 hb1 hB1
 generalize (w1.alloc (.cells #[.bool r0.b,.slice r0.a r0.n r0.c,.bool r0.b',.slice r0.a' r0.n' r0.c'] 78)).alloc (.cells #[.slice A l.length c] 35)=w3 at*
 generalize w1.heap.size=b5 at*
 have hI3:0<l.length->∃b off:Nat,A=some ⟨b,off,none⟩/\b<b5/\∀j,j<l.length->aCP w3 b (off+j*4) (rs j).u:=fun h0=>by
  obtain⟨b,off,e,hb,hf⟩:=HR1.out h0
  have hcl:∀ {o:Nat},w3.cell? ⟨b,o,none⟩=w.cell? ⟨b,o,none⟩:=fun {o}=>B3.cell (p:=⟨b,o,none⟩) hb
  exact⟨b,off,e,by omega,fun j hj=>by
   obtain⟨c0,c1,c2,c3⟩:=hf j hj
   exact⟨hcl.trans c0,hcl.trans c1,hcl.trans c2,hcl.trans c3⟩⟩
 refine wpIn_rangeFunc_ownH rfl (by omega) (gf:=301) (lb:= #[.pointer (some ⟨b5+1,0,none⟩)]) rfl trivial (enters_of func301 (by kernel_rfl) rfl)
  (aZy Fence.wide 4 trivial rfl (by omega) (b5+1) b5 A c l.length (fun j=>(rs j).u) w3 (by omega) (by omega) s3 (by omega) hI3) bIq (bIK (by omega) (by omega)) (Below.refl _ _) (fun _=>rfl)
  (fun pre W=>(∃r:RV,gK W b5 r/\qF b5 W r (eO x (qA l pre)))/\Below b5 w3 W)
  (fun _ _ _=>False)
  (OwnFrom.and (Own.from (fun s W W' row ⟨r,hb,ho⟩ hg hr=>⟨r,(grownBy_keeps_cells hg hr hb rfl).trans hb,ho.step fun p cs el fz _ e=>(grownBy_keeps_cells hg hr e rfl).trans e⟩) _) (ownFrom_below (by omega) (by omega)))
  (fun _ _ _ _ _ hs _ _=>hs)
  ⟨⟨r0,y3,o3⟩,Below.refl _ _⟩
  (fun k a' W=>∃b7,b5+2<=b7/\gK W b7 (rs k.1)/\a'={ tmps:= #[.slice A l.length c,rx.v,undef,.pointer (some ⟨w.heap.size,0,none⟩),.pointer (some ⟨w.heap.size+1,0,none⟩),.pointer (some ⟨b5,0,none⟩),undef,.pointer (some ⟨b7,0,none⟩),r0.v,.slice A l.length c,.func (.func 301) #[] #[.pointer (some ⟨b5+1,0,none⟩)],.int .i64 (k.1:Int),(rs k.1).v,undef,undef,undef,undef,undef,undef],defers:=[] })
  (fun k a' s W W' row ⟨b7,h1,hb,e⟩ hg hr=>⟨b7,h1,(grownBy_keeps_cells hg (fun r e=>(hr r e).2) hb rfl).trans hb,e⟩) ?assign ?body ?done ?stop
 case stop=>
  rintro D c pre W _ _ h _
  exact h.elim
 case assign=>
  rintro lp pre k W K ⟨⟨r,hb,ho⟩,hB⟩ hK
  have hsz:=hB.size
  have hk4:=hK { tmps:= #[.slice A l.length c,rx.v,undef,.pointer (some ⟨w.heap.size,0,none⟩),.pointer (some ⟨w.heap.size+1,0,none⟩),.pointer (some ⟨b5,0,none⟩),undef,.pointer (some ⟨W.heap.size,0,none⟩),r0.v,.slice A l.length c,.func (.func 301) #[] #[.pointer (some ⟨b5+1,0,none⟩)],.int .i64 (k.1:Int),(rs k.1).v,undef,undef,undef,undef,undef,undef],defers:=[] } (W.alloc (.cells #[.bool (rs k.1).b,.slice (rs k.1).a (rs k.1).n (rs k.1).c,.bool (rs k.1).b',.slice (rs k.1).a' (rs k.1).n' (rs k.1).c'] 78)) ((KeepsOthers.alloc W _).from _) ⟨(Below.refl _ _).alloc (by omega) _,fun v hv=>by rw[World.cell?_alloc_past _ _ _ (by omega)];exact hv⟩
   ⟨⟨r,hb.below ((Below.refl _ _).alloc (bJE _) _) hb.lt,ho.step fun p cs el fz _ e=>(Below.heap_alloc _ _ _ (bLm.1 e).1).trans e⟩,hB.alloc (by omega) _⟩ ⟨W.heap.size,by omega,gK.new W (rs k.1),rfl⟩
  clear hK
  simp only[bC7]
  gi_wp2
  exact hk4
 case body=>
  rintro lp pre k a' W hlp _ ⟨⟨r,hb,ho⟩,hB⟩ ⟨b7,h7,hb7,rfl⟩ hpl
  have hp1:=bDZ pre
  have hp2:=bAO (pre:=pre)
  have hkl:co l k.1∈l:=by rw[wK k.2];exact bLR _
  have hxb:=x3.below hB (show w.heap.size<b5 by omega)
  have hxW:WT W rx.v (tR x):=hx.ext (B3.trans (hB.mono (by omega))).block
  have hcW:WT W (rs k.1).v (tR (co l k.1)):=(HR2.out k.1 k.2).ext (B3.trans (hB.mono (by omega))).block
  have hrW:=ho.wt
  have htW:fZ W:=htw.below (B3.trans (hB.mono (by omega)))
  have htD:fZ W.drew:=htW.below ((Below.refl _ W).drew)
  have HM:=br (fun W' v v'=>H.out.mul (qA l pre) hp1 (by omega) W' v v')
  have HA:=br (fun W' v v'=>H.out.add (qA l pre) (co l k.1) hp1 hkl (by omega) W' v v')
  obtain⟨u0,u1,u2,u3⟩:=hb.cells
  obtain⟨p0,p1,p2,p3⟩:=hxb.cells
  obtain⟨q0,q1,q2,q3⟩:=hb7.cells
  have f0:=hb.frozen 0
  have f1:=hb.frozen 1
  have f2:=hb.frozen 2
  have f3:=hb.frozen 3
  have hrD:WT W.drew r.v (tR (eO x (qA l pre))):=aR1 hrW
  have hxD:WT W.drew rx.v (tR x):=aR1 hxW
  gi_wp2_with fail
  gi_region_with (first
   | (refine⟨trivial,CallsIn.inRound lp (callsIn_wide.2 ((HM.out _ _ _ htD hrD hxD).mono ?_))⟩;rintro e W1 ⟨v1,rfl,hm1,hv1⟩;obtain⟨r1,rfl⟩:=aCA hv1;have hm2:Below W.heap.size W W1:=(Below.refl W.heap.size W).drew.trans hm1;obtain⟨a0,a1,a2,a3⟩:=(hb7.below hm2 hb7.lt).cells;have hcW1:=WT.ext hm2.block hcW)
   | (refine⟨trivial,CallsIn.inRound lp (callsIn_wide.2 ((HA.out _ _ _ (htW.below hm2) hv1 hcW1).mono ?_))⟩;rintro e W2 ⟨v2,rfl,hm3,hv2⟩;obtain⟨r2,rfl⟩:=aCA hv2;have hm4:Below W.heap.size W W2:=hm2.trans (hm3.mono hm2.size);obtain⟨d0,d1,d2,d3⟩:=(hb.below hm4 hb.lt).cells;have g0:=(hb.below hm4 hb.lt).frozen 0;have g1:=(hb.below hm4 hb.lt).frozen 1;have g2:=(hb.below hm4 hb.lt).frozen 2;have g3:=(hb.below hm4 hb.lt).frozen 3))
  all_goals
   gi_wp2_with fail
   have hsz:=hB.size
   have hszW:=hm4.size
   have hbW:=hb.below hm4 hb.lt
   refine⟨(aWX hm4 hb).from _,bDx hm4 (by omega),⟨r2,aPG hbW, ?_⟩,hB.trans ((hm4.mono (by omega)).trans (aI9 (bJE _)))⟩
   rw[aZd]
   exact(qF.mk hbW hv2).step fun p cs el fz hp e=>(aD7 hp).trans e
 case done=>
  rintro D ys W hD hys ⟨⟨r,hb,ho⟩,hB⟩ hK
  rw[bBv hys]at ho
  have hz:=z3.below hB (show w.heap.size+1<b5 by omega)
  obtain⟨u0,u1,u2,u3⟩:=hb.cells
  obtain⟨p0,p1,p2,p3⟩:=hz.cells
  have f0:=hz.frozen 0
  have f1:=hz.frozen 1
  have f2:=hz.frozen 2
  have f3:=hz.frozen 3
  gi_wp2_with fail
  have hKD:(rJ W (w.heap.size+1) r).heap[D]? =some (.deferred (some [])):=(aD7 (by omega)).trans hK
  refine⟨by simp,.inl ⟨_,_,rfl,run_takeDeferred hKD, ?_⟩⟩
  have hg:((rJ W (w.heap.size+1) r).putObj D (.deferred none)).heap[w.heap.size+1]? =some (.cells #[.bool r.b,.slice r.a r.n r.c,.bool r.b',.slice r.a' r.n' r.c'] 78):=by
   rw[World.putObj_heap_other (by omega)]
   exact aPG hz
  have hsz:=hB.size
  refine⟨_,results_cell_row rfl _ _ (w.heap.size+1) 78 _ _ _ rfl hg underlying78 rfl (by kernel_rfl),⟨_,rfl, ?_, ?_⟩⟩
  ·exact B3.trans ((hB.mono (by omega)).trans ((aI9 (by omega)).trans (aNV _ (by omega))))
  ·have h1:=((qF.mk hz ho.wt).step (W':=rJ W (w.heap.size+1) r) fun p cs el fz hp e=>(aD7 hp).trans e).wt
   refine h1.sub fun p cs el fz e=> ?_
   have hne:p≠D:=by
    rintro rfl
    rw[hKD]at e;cases e
   rw[World.putObj_heap_other hne];exact e
end
section
open Go Go.RowKit Go.Shelf
attribute [local go_sem] Oper.semAt_some
theorem aGL{w:bR3}{v:bR4}{sz:Nat}(hs:0<sz){ts:List TV}{n:Nat}(hn:ts.length=n*sz)(h:WT w v (.im sz ts)):∃A c,v= .slice A n c/\n<=c/\(0<n->∃b off,A=some ⟨b,off,none⟩/\b<w.heap.size/\∀i t,ts[i]? =some t->∃u,w.cell? ⟨b,off+i,none⟩=some u/\WT w u t):=by
 have h0:ts=[]->n=0:=fun e=>by
  subst e
  rcases bLF n with h|h
  ·exact h
  ·have:=bKG h hs;simp at hn;omega
 cases h with
 |imn=>obtain rfl:=h0 rfl;exact⟨_,_,rfl,bJE _,fun h=>absurd h (bKl 0)⟩
 |im0=>obtain rfl:=h0 rfl;exact⟨_,_,rfl,bJJ _,fun h=>absurd h (bKl 0)⟩
 | im hp hl hs' hc=>
  rename_i p off len c cs el fr
  obtain⟨h1,hat⟩:=aKs hc
  rw[hn,bJO,bK3,Array.length_toList]at h1
  have hm:=bK8 sz hl
  rw[bK7 (by omega)]at h1
  obtain rfl:len=n:=Nat.eq_of_mul_eq_mul_right hs h1
  refine⟨_,_,rfl,hl,fun _=>⟨p,off,rfl,(bLm.1 hp).1,fun i t' e=> ?_⟩⟩
  obtain⟨u,g1,g2⟩:=hat i t' e
  refine⟨u, ?_,g2⟩
  have hi:i<len*sz:=by
   have:=(List.getElem?_eq_some_iff.1 e).1
   omega
  rw[bMS hi,bLf]at g1
  simp only[World.cell?,hp]
  simpa using g1
theorem aKH{w:bR3}{v:bR4}(h:WT w v .em):∃A c,v= .slice A 0 c:=by
 cases h
 ·exact⟨_,_,rfl⟩
 ·exact⟨_,_,rfl⟩
theorem aE9{w:bR3}{v:bR4}{sz:Nat}(hs:0<sz){ts:List TV}{n:Nat}(hn:ts.length=n*sz)(h:WT w v (tL sz ts)):∃A c,v= .slice A n c/\(0<n->∃b off,A=some ⟨b,off,none⟩/\b<w.heap.size/\∀i t,ts[i]? =some t->∃u,w.cell? ⟨b,off+i,none⟩=some u/\WT w u t):=by
 cases ts with
 | nil=>
  have hn0:n=0:=by
   rcases bLF n with h|h
   ·exact h
   ·have:=bKG h hs;simp at hn;omega
  subst hn0
  obtain⟨A,c,e⟩:=aKH h
  exact⟨A,c,e,fun h=>absurd h (bKl 0)⟩
 |cons t ts=>
  obtain⟨A,c,e, -,hh⟩:=aGL hs hn h
  exact⟨A,c,e,hh⟩
theorem bIP{w:bR3}{v:bR4}{l:List Rat}(h:WT w v (tP l)):∃A c,v= .slice A l.length c:=by
 obtain⟨A,c,e, -⟩:=aE9 (n:=l.length) (sz:=4) (by decide) (ts:=bP.row l) (bP.row_len l) h
 exact⟨A,c,e⟩
theorem bBq{w:bR3}{v:bR4}{C:List (List Rat)}(h:WT w v (tC C)):∃A c,v= .slice A C.length c/\(0<C.length->∃b off,A=some ⟨b,off,none⟩/\b<w.heap.size/\∀j,j<C.length->∃A' c',w.cell? ⟨b,off+j,none⟩=some (.slice A' (C.getD j []).length c')/\WT w (.slice A' (C.getD j []).length c') (tP (C.getD j []))):=by
 obtain⟨A,c,e,hh⟩:=aE9 (n:=C.length) (sz:=1) (by decide) (ts:=iY.row C) (iY.row_len C) h
 refine⟨A,c,e,fun h0=> ?_⟩
 obtain⟨b,off,ea,hb,hc⟩:=hh h0
 refine⟨b,off,ea,hb,fun j hj=> ?_⟩
 obtain⟨u,g1,g2⟩:=hc j (tP (C.getD j [])) (by
  have:=iY.get (l:=C) (j:=j) (o:=0) hj (by decide)
  rw[show j*iY.sz+0=j from bKk j]at this
  exact this)
 obtain⟨A',c',rfl⟩:=bIP g2
 exact⟨A',c',g1,g2⟩
structure ChC(C:List (List Rat))(x:Rat):Prop where
 ev:∀p∈C,EvC p x
 len:C.length<=1000
 lens:∀p∈C,p.length<=1000
 sgn:∀p∈C,∀w v,fZ w->WT w v (tR (eO x p))->Calls PG 139 #[v] w fun e w'=>e= .returned (.int .i64 (gB (eO x p)))/\Below w.heap.size w w'
set_option maxRecDepth 100000 in
set_option maxHeartbeats 4000000 in
theorem bC2{C:List (List Rat)}{x:Rat}{v:bR4}{rx:RV}{w:bR3}(htw:fZ w)(H:ChC C x)(hl:WT w v (tC C))(hx:WT w rx.v (tR x)):
  Calls PG 130 #[v,rx.v] w fun e w'=>e= .returned (.int .i64 (gO C x:Nat))/\Below w.heap.size w w':=by
 obtain⟨A,c,rfl,hat⟩:=bBq hl
 have HAT:=br hat
 have H:=br H
 have hlen:=H.out.len
 clear hat hl
 refine(callsIn_wide (n:=5)).1 ?_
 refine callsIn_of_wp func130 rfl trivial ?_ rfl
 simp only[ntmps130,RV.v,bLi,bJN,bKf,bLX,bLY,bLZ,bM0,bM1,bM2,bKA,bKm]
 gi_wp2_with fail
 have hb3:=gK.new w rx
 have hB1:Below w.heap.size w (w.alloc (.cells #[.bool rx.b,.slice rx.a rx.n rx.c,.bool rx.b',.slice rx.a' rx.n' rx.c'] 78)):=(Below.refl _ _).alloc (bJE _) _
 have hs1:(w.alloc (.cells #[.bool rx.b,.slice rx.a rx.n rx.c,.bool rx.b',.slice rx.a' rx.n' rx.c'] 78)).heap.size=w.heap.size+1:=by simp
 generalize w.alloc (.cells #[.bool rx.b,.slice rx.a rx.n rx.c,.bool rx.b',.slice rx.a' rx.n' rx.c'] 78)=w1 at*
 gi_loopw [5,6,12] (fun n la i wr=>∃j:Nat,j<=C.length/\i= .int .i64 (j:Int)/\n= .int .i64 ((jI x (C.take j) (0,0)).1:Nat)/\la= .int .i64 (jI x (C.take j) (0,0)).2/\Hid (Below w1.heap.size w1 wr)) (fun _ _ i _=>C.length-(intOf i).toNat)
 case atStart=>exact⟨0,bJJ _,rfl,rfl,rfl,Below.refl _ _⟩
 case round=>
  obtain⟨j,hj,rfl,rfl,rfl,HB⟩:=hrel
  by_cases hlt:j<C.length
  ·obtain⟨b,off,rfl,hb,hcell⟩:=HAT.out (by omega)
   obtain⟨A',c',g1,g2⟩:=hcell j hlt
   have hm:C.getD j []∈C:=by simp [hlt]
   have HT:=br (aOh hlt (0,0) (x:=x))
   have hs:=aJQ x (C.take j) (0,0) ⟨by decide,by decide⟩
   have hle:(jI x (C.take j) (0,0)).1<=j:=by
    have h:=aDL x (C.take j) (0,0)
    rw[bJO]at h
    have:(jI x (C.take j) (0,0)).1<=0+min j C.length:=h
    omega
   have hB2:=HB.out
   have hbw:=(hB1.trans (hB2.mono (by omega)))
   have hc1:=(hbw.cell (p:=⟨b,off+j,none⟩) hb).trans g1
   have HP:=br (WT.ext hbw.block g2)
   have HX:=br (WT.ext hbw.block hx)
   have hbx:=hb3.below hB2 (by omega)
   have hq:=Sm.sg (eO x (C.getD j []))
   have htr:fZ wr:=htw.below hbw
   have HE:=br fun W (h:Below wr.heap.size wr W)=>bES (htr.below h) (A:=A') (c:=c') (w:=W) (H.out.ev _ hm) (H.out.lens _ hm) (WT.ext h.block HP.out) (WT.ext h.block HX.out)
   have HS:=br (H.out.sgn _ hm)
   obtain⟨p0,p1,p2,p3⟩:=hbx.cells
   clear g1 g2 hcell HAT
   generalize eO x (C.getD j [])=q at*
   generalize (C.getD j []).length=np at*
   generalize gB q=s at*
   generalize jI x (C.take j) (0,0)=st at*
   obtain⟨m,la⟩:=st
   dsimp only at hs hle ⊢
   obtain⟨s1,s2⟩:=hs
   obtain⟨q1,q2⟩:=hq
   gi_wp2_with fail
   refine⟨trivial,callsIn_wide.2 ((HE.out _ (Below.refl _ _)).mono ?_)⟩
   rintro e W2 ⟨v2,rfl,hm1,hv2⟩
   obtain⟨r2,rfl⟩:=aCA hv2
   gi_wp2_with fail
   refine⟨trivial,callsIn_wide.2 ((HS.out _ _ (htr.below hm1) hv2).mono ?_)⟩
   rintro e W3 ⟨rfl,hm2⟩
   have HB3:Hid (Below w1.heap.size w1 W3):=hB2.trans ((hm1.trans (hm2.mono hm1.size)).mono hB2.size)
   clear HE HS HP HX p0 p1 p2 p3 hbx hc1 hv2 hB2 hm1 hm2 HB
   have hm:(m:Int)<10000:=by omega
   rcases(show s= -1\/s=0\/s=1 by omega)with rfl|rfl|rfl<;>rcases(show la= -1\/la=0\/la=1 by omega)with rfl|rfl|rfl<;>(simp at HT;gi_wp2_with fail)
   all_goals
    refine⟨⟨j+1,by omega,rfl, ?_, ?_,HB3⟩, ?_⟩
    ·rw[HT.out]<;>rfl
    ·rw[HT.out]
    ·simp only[intOf];omega
  ·obtain rfl:j=C.length:=by omega
   gi_wp2
   rw[bKp]
   refine bodyPost_ret (results_tmp rfl _ _ _) rfl ?_
   exact⟨rfl,hB1.trans (HB.out.mono (by omega))⟩
end
section
def Lq{α:Type}(a b:Option α):Prop:=∀r,a=some r->b=some r
section
variable {α β:Type}
theorem Lq.refl(a:Option α):Lq a a:=fun _ h=>h
theorem Lq.bind{a b:Option α}{f g:α->Option β}(h:Lq a b)(k:∀x,Lq (f x) (g x)):Lq (a.bind f) (b.bind g):=fun r e=>by
 cases i:a with
 |none=>rw[i]at e;cases e
 |some x=>rw[i]at e;rw[h x i];exact k x r e
theorem Lq.map{a b:Option α}(f:α->β)(h:Lq a b):Lq (a.map f) (b.map f):=fun r e=>by
 cases i:a with
 |none=>rw[i]at e;cases e
 |some x=>rw[i]at e;rw[h x i];exact e
theorem Lq.ite{c:Prop}[Decidable c]{a b a' b':Option α}(h:Lq a b)(k:Lq a' b'):Lq (if c then a else a') (if c then b else b'):=by
 by_cases hc:c
 ·simp only[if_pos hc];exact h
 ·simp only[if_neg hc];exact k
end
section
variable {P:bR8}{cal cal':jP}{orc orc':cP}
def xG(cal cal':jP):Prop:=∀f args s,Lq (cal f args s) (cal' f args s)
def nY(orc orc':cP):Prop:=∀f args,Lq (orc f args) (orc' f args)
theorem aIu(h:nY orc orc'):xG (dC orc) (dC orc'):=fun f _ _=> .bind (.refl _) fun _=> .bind (h f _) fun _=> .refl _
theorem aXK(h:nY orc orc'):xG (vX orc) (vX orc'):=fun f args s=> .ite (aIu h f args s) (.bind (.refl _) fun _=> .bind (h f _) fun _=> .refl _)
theorem aIz(h:nY orc orc'):xG (fF orc) (fF orc'):=fun f _ _=> .bind (.refl _) fun _=> .bind (h f _) fun _=> .refl _
theorem aAv(h:xG cal cal')(op:Op)(r:bB)(s:VS):Lq (bK P cal op r s) (bK P cal' op r s):=by
 cases op with
 | call c=>
  obtain⟨c,args,w⟩:=c
  cases c with
  |value g=>
   refine .bind (.refl _) fun g=> .bind (.refl _) fun aa=> ?_
   cases g<;>first|exact h _ _ _|exact .refl _
  |_=>exact .refl _
 |makeFunc f a b=>cases f<;>exact .refl _
 |_=>exact .refl _
theorem aJd(h:xG cal cal')(all:Array Oper):∀(l:List Oper) (r:bB) (s:VS),Lq (nN P cal all l r s) (nN P cal' all l r s)
 | [],_,_=> .refl _
 |o::l,r,s=>by
  unfold nN
  refine .bind (.refl _) fun g=> .ite ?_ (aJd h all l _ _)
  exact .bind (aAv h _ _ _) fun p=>aJd h all l _ _
theorem aO1{op:Op}(hq:lM op=true)(r:bB)(s:VS):bK P cal op r s=bK P cal' op r s:=by
 cases op with
 |call c=>
  obtain⟨c,args,w⟩:=c
  cases c with
  |value g=>cases hq
  |_=>rfl
 |makeFunc f a b=>cases f<;>rfl
 |_=>rfl
theorem aNo{o:Oper}(hq:lM o.op=true){b:VO}{x:VR}{r:bB}{s:VS}:uE P orc o b x r s=uE P orc' o b x r s:=by
 unfold uE
 rw[aO1 (cal:=dC orc) (cal':=dC orc') hq,aO1 (cal:=dC orc) (cal':=dC orc') hq]
theorem aZ7(h:nY orc orc')(e:bB)(o:Oper)(p:gQ)(b:VO)(r:bB)(s:VS):Lq (iJ P orc e o p b r s) (iJ P orc' e o p b r s):=by
 have hc:=aIu h
 unfold iJ
 split
 ·by_cases hq:lM o.op=true
  ·simp only[if_pos hq];rw[aNo (orc':=orc') hq];exact .refl _
  ·simp only[if_neg hq];exact .refl _
 ·next a hs=>
  have j:∃t,o.op= .load t a:=by
   generalize o.op=op at hs
   unfold eT at hs
   split at hs<;>first|(cases hs;done)|(cases hs;exact⟨_,rfl⟩)
  obtain⟨t,j⟩:=j
  have A:∀r s,bK P (dC orc) o.op r s=bK P (dC orc') o.op r s:=fun r s=>by rw[j];rfl
  simp only[A]
  exact .refl _
 ·split
  ·refine .ite (.ite (.map _ (aAv hc _ _ _)) (.refl _)) (.bind (.refl _) fun a=> ?_)
   split
   ·exact .bind (.refl _) fun ad=> .ite (.map _ (aAv hc _ _ _)) (.refl _)
   ·exact .refl _
  ·exact .ite (.bind (.refl _) fun ad=> .bind (aAv (aXK h) _ _ _) fun q=> .refl _) (.refl _)
  ·refine .bind (.refl _) fun l=> ?_
   split
   ·exact .ite (.map _ (aAv hc _ _ _)) (.refl _)
   ·exact .ite (.bind (.refl _) fun x=> .ite (.map _ (aAv hc _ _ _)) (.refl _)) (.refl _)
  ·exact .ite (.map _ (aAv hc _ _ _)) (.refl _)
  ·by_cases hq:lM o.op=true
   ·simp only[if_pos hq];exact .bind (.refl _) fun x=>by rw[aNo (orc':=orc') hq];exact .refl _
   ·simp only[if_neg hq];exact .refl _
theorem aJ3(h:nY orc orc')(all:Array Oper)(e:bB):∀(l:List (Oper×gQ)) (b:VO) (r:bB) (s:VS),Lq (mQ P orc all e l b r s) (mQ P orc' all e l b r s)
 | [],_,_,_=> .refl _
 |q::l,b,r,s=>by
  unfold mQ
  exact .bind (.refl _) fun g=> .ite (.bind (aZ7 h _ _ _ _ _ _) fun x=>aJ3 h all e l _ _ _) (aJ3 h all e l _ _ _)
theorem aWM(h:nY orc orc')(hc:xG cal cal')(U:FI)(n:Array Oper)(d:Bool)(e:bB)(s:VS):Lq (aC1 P orc cal U n d e s) (aC1 P orc' cal' U n d e s):=by
 unfold aC1
 exact .ite (.ite (.ite (.map _ (aJ3 h _ _ _ _ _ _)) (.refl _)) (.map _ (aJd hc _ _ _ _))) (.refl _)
theorem aOQ{c c':bB->VS->Option (eD×bB×VS)}(h:∀e s,Lq (c e s) (c' e s)):∀(m:Nat) (e:bB) (s:VS),Lq (mN c m e s) (mN c' m e s)
 |0,_,_=> .refl _
 |m+1,e,s=>by
  unfold mN
  refine .bind (h e s) fun p=> ?_
  split
  ·exact aOQ h m _ _
  ·exact .refl _
theorem aP4(h:nY orc orc')(hc:xG cal cal')(U:FI):∀(c:Code) (e:bB) (s:VS),Lq (gR P orc cal U c e s) (gR P orc' cal' U c e s):=by
 intro c
 induction c with
 |region id n d=>intro e s;exact .map _ (aWM h hc _ _ _ _ _)
 |seq a b u v=>
  intro e s
  refine .bind (u e s) fun p=> ?_
  split
  ·exact v _ _
  ·exact .refl _
 |cond x a b u v=>intro e s;exact .bind (.refl _) fun y=> .bind (.refl _) fun t=> .ite (u _ _) (v _ _)
 |block id c ih=>intro e s;exact .map _ (ih e s)
 |loop c ih=>intro e s;exact aOQ ih _ _ _
 |_=>intro e s;exact .refl _
theorem bGH(h:nY orc orc')(hc:xG cal cal')(fn:Func)(args:List TV):Lq (vfn P orc cal fn args) (vfn P orc' cal' fn args):=by
 unfold vfn
 refine .bind (.refl _) fun c=> .ite (.bind (aP4 h hc _ _ _ _) fun p=> ?_) (.refl _)
 split<;>exact .refl _
theorem aR3(bZ:mB)(h:nY orc orc'):∀m,xG (fI P bZ orc m) (fI P bZ orc' m)
 |0=>aIz h
 |m+1=>fun f args s=>by
  unfold fI
  refine .ite (.bind (.refl _) fun fn=> .bind (.refl _) fun c=> .ite (.bind (aP4 h (aR3 bZ h m) _ _ _ _) fun p=> ?_) (.refl _)) (aIz h f args s)
  split<;>exact .refl _
theorem aJD{bZ:mB}{pv pv':cP}(h:nY pv pv')(z:∀f args r,pv f args=none->pv' f args=some r->bZ.prim f=true):∀m,nY (fY P bZ pv m) (fY P bZ pv' m)
 |0=>fun _ _=> .refl _
 | m+1=>fun f args r e=>by
  have ih:=aJD h z m
  unfold fY at e ⊢
  cases i:pv f args with
  |some x=>rw[i]at e;rw[h f args x i];exact e
  | none=>
   rw[i]at e
   cases B:pv' f args with
   |some x=>
    have:=z f args x i B
    simp only[this,if_true]at e
    cases e
   |none=>
    simp only at e ⊢
    exact(show Lq _ _ from .ite (.refl _) (.bind (.refl _) fun fn=> .map _ (bGH ih (aR3 bZ ih lC) fn args))) r e
theorem CC.up{f:bR9}{args:List TV}{R:TV}(h:CC orc f args R)(k:nY orc orc'):CC orc' f args R:=fun s=>⟨aIu k f args s _ (h s).1,aIz k f args s _ (h s).2⟩
end
end
section
open Go Go.RowKit
def iQ{α β:Type}(f:α->Option β):List α->Option (List β)
 | []=>some []
 |a::l=>match f a,iQ f l with |some b,some m=>some (b::m)|_,_=>none
theorem aAf{α β:Type}{f:α->Option β}{a:α}{l:List α}{m:List β}(h:iQ f (a::l)=some m):∃b j,m=b::j/\f a=some b/\iQ f l=some j:=by
 unfold iQ at h
 split at h
 ·next b j h1 h2=>cases h;exact⟨b,j,rfl,h1,h2⟩
 ·cases h
theorem aJ5{α β:Type}{f:α->Option β}:∀ {l:List α} {m:List β},iQ f l=some m->m.length=l.length
 | [],m,h=>by cases h;rfl
 |a::l,m,h=>by obtain⟨b,j,rfl,_,h2⟩:=aAf h;simp [aJ5 h2]
def sL:Nat->St->AV->Option TV
 |0,_,_=>none
 | n+1,st,a=>match a with
  | .b x=>some (.b x)
  | .i k m=>some (.int k (m:Int))
  | .m k m=>some (.int k (Int.negSucc m))
  | .v (.string s)=>some (.str s)
  | .v (.slice none 0 0)=>some .em
  | .se=>some .em
  | .sl id off len _ sz=>match len with
   |0=>some .em
   |len+1=>match Tr.find id st.heap with
    |some b=>if (aBg st id&& !mS b.cells&&Nat.ble (off+(len+1)*sz) b.cells.length&&Nat.ble 1 sz)=true then(iQ (sL n st) ((b.cells.drop off).take ((len+1)*sz))).map (.im sz)else none
    |none=>none
  | .agg cs=>(iQ (sL n st) cs).map .ag
  | .tup cs=>(iQ (sL n st) cs).map .tp
  |_=>none
theorem aAe{f:AV->Option TV}{Γ:aP}{w:bR3}(hf:∀a t v,f a=some t->CR Γ a v->WT w v t):∀ {l:List AV} {ts:List TV} {vs:List bR4},iQ f l=some ts->bW Γ l vs->dF w vs ts
 | [],ts,vs,h,c=>by cases h;cases c;exact .nil
 |a::l,ts,vs,h,c=>by
  obtain⟨b,j,rfl,h1,h2⟩:=aAf h
  cases c with
  |cons ca cl=>exact .cons (hf _ _ _ h1 ca) (aAe hf h2 cl)
theorem aES{Γ:aP}{w:bR3}{st:St}(hs:dQ st Γ w):∀(n:Nat) (a:AV) (t:TV) (v:bR4),sL n st a=some t->CR Γ a v->WT w v t
 |0,_,_,_,h,_=>by cases h
 | n + 1,a,t,v,h,c=>by
  have ih:=aES hs n
  unfold sL at h
  split at h
  ·cases h;cases c;exact .b _
  ·cases h;cases c;exact .int _ _
  ·cases h;cases c;exact .int _ _
  ·cases h;cases c;exact .str _
  ·cases h;cases c;exact .emn
  ·cases h;cases c;exact .ems _ _
  ·next id off len cap sz=>
   cases c with
   | sl hΓ J Y hsz=>
    rename_i p s c
    split at h
    ·cases h;exact .ems _ _
    ·next len=>
     split at h
     ·next b B=>
      split at h
      ·next hc=>
       simp only[bJI,Bool.not_eq_true']at hc
       obtain⟨⟨⟨c1,c2⟩,c3⟩,c4⟩:=hc
       rw[bJG]at h
       obtain⟨ts,h1,rfl⟩:=h
       obtain⟨p',s',g1,g2,cs,el,g3,rfl,g5,g6,_⟩:=hs.blkc id b ⟨⟨aBM.1 c1,B⟩,c2⟩
       rw[hΓ]at g1
       cases g1
       have a':=bJP c3
       have Z:=(g6.drop off).take ((len+1)*sz)
       have e:((cs.toList.take b.cells.length).drop off).take ((len+1)*sz)=(cs.toList.drop off).take ((len+1)*sz):=by
        rw[List.drop_take,List.take_take,bK7 (by omega)]
       rw[e]at Z
       exact .im g3 J hsz (aAe (fun a t v q c=>ih a t v q c) h1 Z)
      ·cases h
     ·cases h
  ·rw[bJG]at h
   obtain⟨ts,h1,rfl⟩:=h
   cases c with |agg cl=>exact .ag (aAe (fun a t v q c=>ih a t v q c) h1 cl)
  ·rw[bJG]at h
   obtain⟨ts,h1,rfl⟩:=h
   cases c with |tup cl=>exact .tp (aAe (fun a t v q c=>ih a t v q c) h1 cl)
  ·cases h
def iA:Nat->TV->Bool
 |0,_=>false
 |n+1,t=>match t with
  | .b _=>true
  | .int _ _=>true
  | .str _=>true
  | .nil=>true
  | .em=>true
  | .e0 _=>true
  | .im sz cs=>Nat.ble 1 sz&&cs.all (iA n)
  | .ag cs=>cs.all (iA n)
  | .tp cs=>cs.all (iA n)
  |_=>false
theorem aAl{h:Tr}{F:Id->Prop}{f:AV->Option TV}{ok:TV->Bool}(hf:∀a t,TR h eF eI F a t->ok t=true->f a=some (iB t)):∀ {l:List AV} {ts:List TV},bM h eF eI F l ts->ts.all ok=true->iQ f l=some (cG ts)
 | [],ts,q,_=>by cases q;rfl
 | a::l,ts,q,o=>by
  cases q with
  |cons qa ql=>
   rw[bKK,bJI]at o
   unfold iQ
   rw[hf _ _ qa o.1,aAl hf ql o.2]
   rfl
theorem aEX{st:St}{F:Id->Prop}(A:∀id,F id->st.vis id):∀(n:Nat) (a:AV) (t:TV),TR st.heap eF eI F a t->iA n t=true->sL n st a=some (iB t)
 |0,_,_,_,h=>by cases h
 | n +1,a,t,q,h=>by
  have ih:=aEX A n
  cases q with
  |b x=>rfl
  |i k m=>rfl
  |m k m=>rfl
  |str x=>rfl
  |lit x=>cases h
  |err=>cases h
  |u=>cases h
  |nil=>rfl
  |imv sz=>
   simp only[iA,bJI]at h
   show some TV.em=some (if ([]:List TV).length=0/\0<sz then TV.em else _)
   rw[if_pos ⟨rfl,bJP h.1⟩]
  |imse sz=>
   simp only[iA,bJI]at h
   show some TV.em=some (if ([]:List TV).length=0/\0<sz then TV.em else _)
   rw[if_pos ⟨rfl,bJP h.1⟩]
  | im L hf M C=>
   rename_i id off len cap sz blk cs
   simp only[iA,bJI]at h
   have hz:=bJP h.1
   have D:=C.length
   rw[bJO,bK3]at D
   cases len with
   |zero=>
    show some TV.em=some (if cs.length=0/\0<sz then TV.em else _)
    rw[if_pos ⟨by omega,hz⟩]
   | succ len=>
    have h0:0<(len+1)*sz:=bKG (by omega) hz
    show(match Tr.find id st.heap with
     |some b=>if (aBg st id&& !mS b.cells&&Nat.ble (off+(len+1)*sz) b.cells.length&&Nat.ble 1 sz)=true then(iQ (sL n st) ((b.cells.drop off).take ((len+1)*sz))).map (.im sz)else none
     |none=>none)=some (if cs.length=0/\0<sz then TV.em else .im sz (cG cs))
    rw[hf.hf]
    simp only
    rw[if_pos (by rw[aBM.2 (A _ L),hf.nm,bKX M,h.1];rfl),aAl ih C h.2,if_neg (by omega)]
    rfl
  |e0 L hf M=>rfl
  |ow o=>exact o.elim
  |po o=>exact o.elim
  |pi=>cases h
  |fn=>cases h
  |ag hc=>
   show(iQ (sL n st) _).map TV.ag=some (.ag (cG _))
   rw[aAl ih hc h];rfl
  |tp hc=>
   show(iQ (sL n st) _).map TV.tp=some (.tp (cG _))
   rw[aAl ih hc h];rfl
  |emv=>rfl
  |emse=>rfl
  |ems L hf M=>rfl
def lW:TV->Option AV
 | .b x=>some (.b x)
 | .int k (.ofNat n)=>some (.i k n)
 | .int k (.negSucc n)=>some (.m k n)
 | .str x=>some (.v (.string x))
 | .lit .nilIface=>some (.v .nilIface)
 | .err=>some (.fn (.yield 2) [] [])
 |_=>none
def sT:TV->Option AV
 | .tp l=>(iQ lW l).map .tup
 |t=>lW t
theorem aMF{Γ:aP}{w:bR3}{t:TV}{a:AV}{v:bR4}(h:lW t=some a)(q:WT w v t):CR Γ a v:=by
 unfold lW at h
 split at h<;>cases h<;>cases q
 ·exact .b _
 ·exact .i _ _
 ·exact .m _ _
 ·exact .v ⟨fun _ e=>(by cases e),fun _ e=>(by cases e)⟩
 ·next E=>exact .v E
 ·exact .anyE _ _
theorem aI2{Γ:aP}{w:bR3}:∀ {ts:List TV} {aS:List AV} {vs:List bR4},iQ lW ts=some aS->dF w vs ts->bW Γ aS vs
 | [],aS,vs,h,q=>by cases h;cases q;exact .nil
 |t::ts,aS,vs,h,q=>by
  obtain⟨b,j,rfl,h1,h2⟩:=aAf h
  cases q with |cons qa ql=>exact .cons (aMF h1 qa) (aI2 h2 ql)
theorem aNf{Γ:aP}{w:bR3}{t:TV}{a:AV}{v:bR4}(h:sT t=some a)(q:WT w v t):CR Γ a v:=by
 unfold sT at h
 split at h
 ·rw[bJG]at h
  obtain⟨aS,h1,rfl⟩:=h
  cases q with |tp ql=>exact .tup (aI2 h1 ql)
 ·exact aMF h q
theorem aNb{h:Tr}{F:Id->Prop}{t:TV}{a:AV}(e:lW t=some a):TR h eF eI F a t:=by
 unfold lW at e
 split at e<;>cases e
 ·exact .b _
 ·exact .i _ _
 ·exact .m _ _
 ·exact .str _
 ·exact .lit _ ⟨fun _ e=>(by cases e),fun _ e=>(by cases e)⟩
 ·exact .err
theorem aIs{h:Tr}{F:Id->Prop}:∀ {ts:List TV} {aS:List AV},iQ lW ts=some aS->bM h eF eI F aS ts
 | [],aS,e=>by cases e;exact .nil
 |t::ts,aS,e=>by
  obtain⟨b,j,rfl,h1,h2⟩:=aAf e
  exact .cons (aNb h1) (aIs h2)
theorem aOu{h:Tr}{F:Id->Prop}{t:TV}{a:AV}(e:sT t=some a):TR h eF eI F a t:=by
 unfold sT at e
 split at e
 ·rw[bJG]at e
  obtain⟨aS,h1,rfl⟩:=e
  exact .tp (aIs h1)
 ·exact aNb e
theorem aHU{t:TV}{a:AV}(e:lW t=some a):cI t=true:=by
 unfold lW at e
 split at e<;>first|rfl|cases e
theorem aMo{t:TV}{a:AV}(e:sT t=some a):cI t=true:=by
 unfold sT at e
 split at e
 ·rw[bJG]at e
  obtain⟨aS,h1,rfl⟩:=e
  have:∀ {ts:List TV} {aS:List AV},iQ lW ts=some aS->dI ts=true:=by
   intro ts
   induction ts with
   |nil=>intro _ _;rfl
   |cons t ts ih=>
    intro aS e
    obtain⟨b,j,rfl,h1,h2⟩:=aAf e
    simp only[dI,aHU h1,ih h2,bKr]
  exact this h1
 ·exact aHU e
def nV:Nat:=12
def mK(g:List TV->Option TV):List AV->St->KS->OR:=fun args st k=>match iQ (sL nV st) args with
 |some ts=>match (g ts).bind sT with
  |some a=>k a st
  |none=>none
 |none=>none
def aCg(P:bR8)(f:bR9)(g:List TV->Option TV):Prop:=∀(w:bR3) (vs:List bR4) (ts:List TV) (R:TV),dF w vs ts->g ts=some R->Calls P f vs.toArray w fun e w'=>∃v,e= .returned v/\Below w.heap.size w w'/\WT w' v R
theorem aPW{P:bR8}{f:bR9}{g:List TV->Option TV}(h:aCg P f g):aAR P f (mK g):=fun {args st k r Γ w vs} q hs hc=>by
 unfold mK at q
 split at q
 ·next ts y=>
  split at q
  ·next a G=>
   rw[bJF]at G
   obtain⟨R,h1,h2⟩:=G
   have N:=aAe (w:=w) (fun a t v e c=>aES hs nV a t v e c) y hc
   intro K O
   refine Calls.mono (h w vs ts R N h1) ?_
   rintro e w' ⟨v,rfl,B,A⟩
   exact O _ _ _ w' Γ q (dH.ext hs B) (aNf h2 A)
  ·cases q
 ·cases q
def oF(g:List TV->Option TV)(vs:List TV):Option (TV×Bool):=if vs.all (iA nV)=true then(g (cG vs)).bind fun R=>(sT R).map fun _=>(R,false)else none
theorem aMi{P:bR8}{pr:cN}{f:bR9}{g:List TV->Option TV}(E:pr f=some (mK g)){vs:List TV}{R:TV}{own:Bool}(h:oF g vs=some (R,own)):jT P pr f vs R own:=by
 unfold oF at h
 split at h
 ·next z=>
  simp only[bJF,bJG]at h
  obtain⟨R',h1,a,h2,Q⟩:=h
  cases Q
  intro st aS F S T U d V H _
  refine⟨a,st,F,⟨aOu h2,aMo h2,fun _ h=>h,fun _ h=> .inl h,fun _ _=>rfl,rfl,rfl,bJE _,fun h=>by cases h⟩,0,fun n _ k=> ?_⟩
  have W:=aAl (aEX (st:=st) (F:=F) d nV) T z
  show(Option.rec (motive:=fun _=>IH->List AV->St->KS->OR) (wY P (P.funcs[f]?)) (fun p _=>p) (pr f)) _ aS st k=_
  rw[E]
  show mK g aS st k=_
  unfold mK
  rw[W]
  simp only[h1,h2,bJM]
 ·cases h
def zJ(g:List TV->Option TV):List AV->St->KS->OR:=fun args st k=>match aGG st with
 |true=>mK g args st k
 |false=>none
def aB4(P:bR8)(f:bR9)(g:List TV->Option TV):Prop:=∀(w:bR3) (vs:List bR4) (ts:List TV) (R:TV),fZ w->dF w vs ts->g ts=some R->Calls P f vs.toArray w fun e w'=>∃v,e= .returned v/\Below w.heap.size w w'/\WT w' v R
theorem aP8{P:bR8}{f:bR9}{g:List TV->Option TV}(h:aB4 P f g):aAR P f (zJ g):=fun {args st k r Γ w vs} q hs hc=>by
 unfold zJ at q
 split at q
 ·next ht=>
  have X:=aM3 hs ht
  unfold mK at q
  split at q
  ·next ts y=>
   split at q
   ·next a G=>
    rw[bJF]at G
    obtain⟨R,h1,h2⟩:=G
    have N:=aAe (w:=w) (fun a t v e c=>aES hs nV a t v e c) y hc
    intro K O
    refine Calls.mono (h w vs ts R X N h1) ?_
    rintro e w' ⟨v,rfl,B,A⟩
    exact O _ _ _ w' Γ q (dH.ext hs B) (aNf h2 A)
   ·cases q
  ·cases q
 ·cases q
theorem aMG{P:bR8}{pr:cN}{f:bR9}{g:List TV->Option TV}(E:pr f=some (zJ g)){vs:List TV}{R:TV}{own:Bool}(h:oF g vs=some (R,own)):jT P pr f vs R own:=by
 unfold oF at h
 split at h
 ·next z=>
  simp only[bJF,bJG]at h
  obtain⟨R',h1,a,h2,Q⟩:=h
  cases Q
  intro st aS F S T U d V H I
  refine⟨a,st,F,⟨aOu h2,aMo h2,fun _ h=>h,fun _ h=> .inl h,fun _ _=>rfl,rfl,rfl,bJE _,fun h=>by cases h⟩,0,fun n _ k=> ?_⟩
  have W:=aAl (aEX (st:=st) (F:=F) d nV) T z
  show(Option.rec (motive:=fun _=>IH->List AV->St->KS->OR) (wY P (P.funcs[f]?)) (fun p _=>p) (pr f)) _ aS st k=_
  rw[E]
  show zJ g aS st k=_
  unfold zJ
  rw[aP1 I]
  show mK g aS st k=_
  unfold mK
  rw[W]
  simp only[h1,h2,bJM]
 ·cases h
end
theorem aIR{st:St}{b:cK}:Tr.find st.nxt (st.new b).heap=some b:=by
 show Tr.find st.nxt (Tr.put (some b) st.nxt st.heap)=_
 rw[aJc,if_pos rfl]
theorem aIX{st:St}{b:cK}{id:Id}(h:id.nat<st.nxt.nat):Tr.find id (st.new b).heap=Tr.find id st.heap:=by
 show Tr.find id (Tr.put (some b) st.nxt st.heap)=_
 rw[aJc,if_neg (fun e=>by rw[e]at h;exact bKl _ h)]
theorem aPF{pr:cN}{f:bR9}{z:Nat}(h1:∀m st k,eN PG pr f (cC PG pr true (m+6)) [.v (.slice none 0 0)] st k=k (.v (.slice none 0 0)) st)
  (h2:∀m st k,eN PG pr f (cC PG pr true (m+6)) [.se] st k=k (.sl st.nxt 0 0 (some 0) z) (st.new ⟨[],true⟩))
  (p:∀m st id off sz cap b,(st.new ⟨[],true⟩).vis id->FC (st.new ⟨[],true⟩).heap id b->off<=b.cells.length->∀k,eN PG pr f (cC PG pr true (m+6)) [.sl id off 0 cap sz] st k=k (.sl st.nxt 0 0 (some 0) z) (st.new ⟨[],true⟩)):jT PG pr f [.em] .em false:=by
 intro st al F q r i d s l _
 have new:∀a:AV,(∀m k,eN PG pr f (cC PG pr true (m+6)) [a] st k=k (.sl st.nxt 0 0 (some 0) z) (st.new ⟨[],true⟩))->∃a' st' F',aB0 st st' F F' a' .em false/\∃N,∀n,N<=n->∀k,eN PG pr f (cC PG pr true n) [a] st k=k a' st':=fun a h=>by
  refine⟨.sl st.nxt 0 0 (some 0) z,st.new ⟨[],true⟩,fun id=>F id\/id=st.nxt,⟨?_,rfl,fun id h=> .inl h,fun id h=>h.elim .inl fun e=> .inr ?_,fun id h=>aIX h,rfl,rfl, ?_,fun h=>by cases h⟩,6,fun n hn k=> ?_⟩
  ·exact .ems (blk:=⟨[],true⟩) (.inr rfl) ⟨aIR,rfl⟩ (bJE _)
  ·subst e;rw[mE];exact⟨bJE _,bJT _⟩
  ·rw[mE];exact Nat.le_succ _
  ·obtain⟨m,rfl⟩:∃m,n=m+6:=⟨n-6,by omega⟩
   exact h m k
 cases r with |cons t g=>
 cases g
 cases t with
 | emv=>exact⟨_,st,F,⟨.emv,rfl,fun _ h=>h,fun _ h=> .inl h,fun _ _=>rfl,rfl,rfl,bJE _,fun h=>by cases h⟩,6,fun n hn k=>by
   obtain⟨m,rfl⟩:∃m,n=m+6:=⟨n-6,by omega⟩
   exact h1 m st k⟩
 |emse=>exact new _ fun m k=>h2 m st k
 |ems o hf g=>
  refine new _ fun m k=>p m st _ _ _ _ _ (d _ o) ⟨?_,hf.nm⟩ g k
  rw[aIX (i _ o)];exact hf.hf
theorem aZF{pr:cN}(c:pr 93=none)(m:Nat)(st:St)(id:Id)(off sz:Nat)(cap:Option Nat)(b:cK)(j:(st.new ⟨[],true⟩).vis id)(hf:FC (st.new ⟨[],true⟩).heap id b)(g:off<=b.cells.length)(k:KS):
  eN PG pr 93 (cC PG pr true (m+6)) [.sl id off 0 cap sz] st k=k (.sl st.nxt 0 0 (some 0) 1) (st.new ⟨[],true⟩):=by
 unfold eN
 rw[c]
 have h:∀K:List AV->OR,eQ (st.new ⟨[],true⟩) id (fun b=>fT 0 off b.cells K)=K []:=fun K=>by
  rw[iC j hf,jY 0 off b.cells _ (by omega)];rfl
 conv=>lhs;whnf
 refine(h _).trans ?_
 kernel_rfl
theorem aZY{pr:cN}(c:pr 93=none)(m:Nat)(st:St)(k:KS):
  eN PG pr 93 (cC PG pr true (m+6)) [.se] st k=k (.sl st.nxt 0 0 (some 0) 1) (st.new ⟨[],true⟩):=by
 unfold eN
 rw[c]
 kernel_rfl
theorem aX3{pr:cN}(c:pr 93=none)(m:Nat)(st:St)(k:KS):
  eN PG pr 93 (cC PG pr true (m+6)) [.v (.slice none 0 0)] st k=k (.v (.slice none 0 0)) st:=by
 unfold eN
 rw[c]
 kernel_rfl
theorem aYd{pr:cN}(c:pr 93=none):jT PG pr 93 [.em] .em false:=aPF (aX3 c) (aZY c) (aZF c)
theorem aYP{pr:cN}(c:pr 113=none)(m:Nat)(st:St)(id:Id)(off sz:Nat)(cap:Option Nat)(b:cK)(j:(st.new ⟨[],true⟩).vis id)(hf:FC (st.new ⟨[],true⟩).heap id b)(g:off<=b.cells.length)(k:KS):
  eN PG pr 113 (cC PG pr true (m+6)) [.sl id off 0 cap sz] st k=k (.sl st.nxt 0 0 (some 0) 4) (st.new ⟨[],true⟩):=by
 unfold eN
 rw[c]
 have h:∀K:List AV->OR,eQ (st.new ⟨[],true⟩) id (fun b=>fT 0 off b.cells K)=K []:=fun K=>by
  rw[iC j hf,jY 0 off b.cells _ (by omega)];rfl
 conv=>lhs;whnf
 refine(h _).trans ?_
 kernel_rfl
theorem aYa{pr:cN}(c:pr 113=none)(m:Nat)(st:St)(k:KS):
  eN PG pr 113 (cC PG pr true (m+6)) [.se] st k=k (.sl st.nxt 0 0 (some 0) 4) (st.new ⟨[],true⟩):=by
 unfold eN
 rw[c]
 kernel_rfl
theorem aWV{pr:cN}(c:pr 113=none)(m:Nat)(st:St)(k:KS):
  eN PG pr 113 (cC PG pr true (m+6)) [.v (.slice none 0 0)] st k=k (.v (.slice none 0 0)) st:=by
 unfold eN
 rw[c]
 kernel_rfl
theorem aY0{pr:cN}(c:pr 113=none):jT PG pr 113 [.em] .em false:=aPF (aWV c) (aYa c) (aYP c)
end Ev
section
open Go Go.RowKit Go.Shelf
attribute [local go_sem] Oper.semAt_some
abbrev WK(K:Nat):={ x:Nat// x<K }
abbrev W32:=WK 4294967296
def sN(pre:List (Nat×W32)):Nat:=val ((pre.map fun p=>p.2.1).reverse)
theorem aY3(pre:List (Nat×W32))(x:Nat×W32):sN (pre++[x])=x.2.1+4294967296*sN pre:=by
 simp [sN,val]
theorem bEe(pre:List (Nat×W32))(h:pre.length<=1):sN pre<4294967296:=by
 match pre,h with
 | [],_=>simp [sN,val]
 | [x],_=>simp [sN,val];exact x.2.2
 |_::_::_,h=>simp at h
def KpB(n₀ Bs:Nat)(A B:bR3):Prop:=Below n₀ A B/\∀v,A.cell? ⟨Bs,0,none⟩=some v->B.cell? ⟨Bs,0,none⟩=some v
set_option maxRecDepth 100000 in
set_option maxHeartbeats 2000000 in
theorem aWf{K:Nat}(F:Fence)(n:Nat)(hf:F.fn 184)(hro:F.round=none)(hn:1<=n)(l Bs n₀:Nat)(A:Option bRb)(c:Nat)(xs:List Nat)(hlen:xs.length<=35184372088832)(hL:∀i,xs.getD i 0<K)(J Jx:List (Nat×WK K)->bR3->Prop)
  (hY:∀pre x W,J pre W->pre.length<xs.length->YieldAt F (n-1) prog l #[.int .i64 (x.1:Int),.int .u32 ((x.2.1:Nat):Int)] W fun e W'=>
   (e= .returned (.bool true)/\J (pre++[x]) W'/\KpB n₀ Bs W W')\/(e= .returned (.bool false)/\Jx (pre++[x]) W'))
  (W:bR3) (hBs:W.cell? ⟨Bs,0,none⟩=some (.slice A xs.length c)) (hc:0<xs.length->∃b off:Nat,A=some ⟨b,off,none⟩/\b<n₀/\∀j,j<xs.length->W.cell? ⟨b,off+j,none⟩=some (.int .u32 ((xs.getD j 0:Nat):Int))) (h0:J [] W):
  CallsIn F n prog 184 #[.func (.yield l) #[] #[],.pointer (some ⟨Bs,0,none⟩)] W fun e W'=>(∃v,e= .returned v)/\
   ((∃ys:List (Nat×WK K),(ys.map (fun p=>p.2.1)=xs.reverse/\ys.map (fun p=>p.1)=(bKj xs.length).reverse)/\J ys W')\/(∃pre,True/\Jx pre W')):=by
 refine callsIn_of_wp func184 rfl hf ?_ hro
 simp only[ntmps184,bLi,bJN,bKf,bLX,bLY,bLZ,bM0,bM1,bM2,bKA,bKm]
 have HC:=br hc
 clear hc
 gi_wp2
 gi_loopw [3] (fun i wr=>∃j:Nat,j<=xs.length/\i= .int .i64 ((j:Int)-1)/\∃pre,Hid (pre.map (fun p:Nat×WK K=>p.2.1)=(xs.drop j).reverse/\pre.map (fun p:Nat×WK K=>p.1)=((bKj xs.length).drop j).reverse)/\J pre wr/\Hid (KpB n₀ Bs W wr))
  (fun i _=>(intOf i+1).toNat)
 case atStart=>exact⟨xs.length,bJE _,rfl,[],by simp [Hid],h0,⟨Below.refl _ _,fun _ h=>h⟩⟩
 case round=>
  obtain⟨j,hj,rfl,pre,HP,hJs,HK⟩:=hrel
  have hbx:=HK.out.2 _ hBs
  by_cases hlt:0<j
  ·obtain⟨k,rfl⟩:∃k,j=k+1:=⟨j-1,by omega⟩
   obtain⟨b,off,rfl,hb,hcell⟩:=HC.out (by omega)
   obtain⟨x,hx⟩:∃x:WK K,xs.getD k 0=x.1:=⟨⟨xs.getD k 0,hL k⟩,rfl⟩
   have hck:wr.cell? ⟨b,off+k,none⟩=some (.int .u32 ((x.1:Nat):Int)):=by
    rw[←hx];exact(HK.out.1.cell (p:=⟨b,off+k,none⟩) hb).trans (hcell k (by omega))
   have hpl:pre.length<xs.length:=by
    have:=congrArg bKU HP.out.1
    simp at this;omega
   obtain⟨fn,tmps,assign,body,hy,hR⟩:=hY _ (k,x) wr hJs hpl
   dsimp only at hy
   have HD:Hid ((pre++[(k,x)]).map (fun p:Nat×WK K=>p.2.1)=(xs.drop k).reverse/\(pre++[(k,x)]).map (fun p:Nat×WK K=>p.1)=((bKj xs.length).drop k).reverse):=by
    constructor
    ·rw[bLx (show k<xs.length by omega),bME,bL6,HP.out.1]
     have:xs[k]=x.1:=by rw[←hx,List.getD_eq_getElem?_getD,List.getElem?_eq_getElem (show k<xs.length by omega)];rfl
     simp [this]
    ·rw[bLx (show k<(bKj xs.length).length by rw[bMB];omega),bME,bL6,HP.out.2,bN6]
     rfl
   clear hcell HC hx
   have hik:(((k+1:Nat):Int))-1=(k:Int):=by omega
   rw[hik]at*
   gi_wp2
   refine hR.mono ?_
   rintro e W3 (⟨rfl,hJ3,hk3⟩|⟨rfl,hJx3⟩)
   ·gi_wp2
    go_roundw
    case rel=>exact⟨k,by omega,rfl,_,HD,hJ3,⟨HK.out.1.trans hk3.1,fun v hv=>hk3.2 v (HK.out.2 v hv)⟩⟩
    case measure=>simp [intOf]
   ·gi_wp2
    refine bodyPost_ret (results_none rfl _ _ _) rfl ?_
    exact⟨⟨_,rfl⟩,.inr ⟨_,trivial,hJx3⟩⟩
  ·obtain rfl:j=0:=by omega
   gi_wp2
   go_end0
   exact⟨⟨_,rfl⟩,.inl ⟨pre,by have:=HP.out;simpa using this,hJs⟩⟩
set_option maxHeartbeats 1000000 in
theorem aLC(F:Fence)(n:Nat)(h5:F.fn 96)(hro:F.round=none)(a:Option bRb)(len cap:Nat)(w:bR3):
  CallsIn F n prog 96 #[.slice a len cap] w fun e w'=>e= .returned (.func (.func 184) #[] #[.pointer (some ⟨w.heap.size,0,none⟩)])/\w'=w.alloc (.cells #[.slice a len cap] 45):=by
 refine callsIn_of_wp func96 rfl h5 ?_ hro
 simp only[ntmps96,bLi,bJN,bKf,bLX,bLY,bLZ,bM0,bM1,bM2,bKA,bKm]
 gi_wp2
 go_ret
 exact⟨rfl,rfl⟩
theorem aUk{n₀ Bs:Nat}{A B C:bR3}(h:KpB n₀ Bs A B)(k:KpB n₀ Bs B C):KpB n₀ Bs A C:=⟨h.1.trans k.1,fun v hv=>k.2 v (h.2 v hv)⟩
theorem aUh{n₀ Bs:Nat}{w:bR3}(h1:n₀<=w.heap.size)(h2:Bs<w.heap.size)(W:bR3)(l:Nat)(o o':Obj)(a:w.heap.size<=l)(b:W.heap[l]? =some o)(c:o.isCells=false)(d:o.isWalk=false):KpB n₀ Bs W (W.putObj l o'):=by
 have h:=belowK_b (w:=w) (bJE _) W l o o' a b c d
 exact⟨h.mono h1,fun v hv=>(h.cell (p:=⟨Bs,0,none⟩) h2).trans hv⟩
theorem aLA{K:Nat}(F:Fence)(n:Nat)(hf:F.fn 184)(hro:F.round=none)(hn:1<=n)(Bs n₀:Nat)(A:Option bRb)(c:Nat)(xs:List Nat)(w:bR3)(hBs:Bs<w.heap.size)(hn₀:n₀<=w.heap.size)
  (hc:w.cell? ⟨Bs,0,none⟩=some (.slice A xs.length c)) (hlen:xs.length<=35184372088832) (hL:∀i,xs.getD i 0<K) (hI:0<xs.length->∃b off:Nat,A=some ⟨b,off,none⟩/\b<n₀/\∀j,j<xs.length->w.cell? ⟨b,off+j,none⟩=some (.int .u32 ((xs.getD j 0:Nat):Int))):
  SeqStopsK F n prog 184 #[.pointer (some ⟨Bs,0,none⟩)] (fun x:Nat×WK K=> #[Value.int .i64 (x.1:Int),Value.int .u32 ((x.2.1:Nat):Int)]) (KpB n₀ Bs) (fun ys=>ys.map (fun p=>p.2.1)=xs.reverse/\ys.map (fun p=>p.1)=(bKj xs.length).reverse) (fun _=>True) xs.length w:=fun l J Jx W hW _ _ hY h0=>by
 have hc':=(hW.cell (p:=⟨Bs,0,none⟩) hBs).trans hc
 refine aWf F n hf hro hn l Bs n₀ A c xs hlen hL J Jx hY W hc' (fun h=> ?_) h0
 obtain⟨b,off,e,hb,hcell⟩:=hI h
 exact⟨b,off,e,hb,fun j hj=>(hW.cell (p:=⟨b,off+j,none⟩) (bJK hb hn₀)).trans (hcell j hj)⟩
set_option maxRecDepth 100000 in
set_option maxHeartbeats 2000000 in
theorem aVQ(F:Fence)(n:Nat)(h3:F.fn 178)(h5:F.fn 96)(h7:F.fn 184)(hro:F.round=none)(hn:3<=n)(a:Option bRb)(c:Nat)(xs:List Nat)(w:bR3)(h:jU w (.slice a xs.length c) xs)(hs:xs.length<=2):
  CallsIn F n prog 178 #[.slice a xs.length c] w fun e W'=>e= .returned (.int .u64 ((val xs:Nat):Int))/\Below w.heap.size w W':=by
 have h1:1<=n:=by omega
 have hL:=h.limb
 have hI:0<xs.length->∃b off:Nat,a=some ⟨b,off,none⟩/\b<w.heap.size/\∀j,j<xs.length->w.cell? ⟨b,off+j,none⟩=some (.int .u32 ((xs.getD j 0:Nat):Int)):=fun h0=>by
  obtain⟨b,off,e,hb, -,hcell⟩:=h.at_ h0
  exact⟨b,off,e,hb,hcell⟩
 clear h
 have HI:=br hI
 clear hI
 refine callsIn_of_wp_marks func178 rfl h3 ?_ hro
 simp only[ntmps178,bLi,bJN,bKf,bLX,bLY,bLZ,bM0,bM1,bM2,bKA,bKm]
 gi_wp2_with (gi_at_call 96;refine(aLC F (n-1) h5 hro _ _ _ _).mono ?_;rintro e w' ⟨rfl,rfl⟩)
 have bS:=Boxed.new w 103 (.int .u64 0)
 have bN:=Boxed.new (w.alloc (.cells #[.int .u64 0] 103)) 45 (.slice a xs.length c)
 rw[World.size_alloc]at bN
 have hB0:Below w.heap.size w ((w.alloc (.cells #[.int .u64 0] 103)).alloc (.cells #[.slice a xs.length c] 45)):=((Below.refl _ w).alloc (bJE _) _).alloc (by simp) _
 have hI2:0<xs.length->∃b off:Nat,a=some ⟨b,off,none⟩/\b<w.heap.size/\∀j,j<xs.length->((w.alloc (.cells #[.int .u64 0] 103)).alloc (.cells #[.slice a xs.length c] 45)).cell? ⟨b,off+j,none⟩=some (.int .u32 ((xs.getD j 0:Nat):Int)):=fun h0=>by
  obtain⟨b,off,e,hb,hcell⟩:=HI.out h0
  exact⟨b,off,e,hb,fun j hj=>(hB0.cell (p:=⟨b,off+j,none⟩) hb).trans (hcell j hj)⟩
 refine wpIn_rangeFunc_ownG hro h1 (gf:=184) (lb:= #[.pointer (some ⟨w.heap.size+1,0,none⟩)]) rfl h7 (enters_of func184 (by kernel_rfl) rfl)
  (aLA F (n-1) h7 hro (by omega) (w.heap.size+1) w.heap.size a c xs _ (by simp) (by simp;omega) bN.cell (by omega) (fun i=>hL.getD i) hI2) aUk (aUh (by simp;omega) (by simp)) (Below.refl _ _) (fun _=>rfl)
  (fun pre W=>(W.cell? ⟨w.heap.size,0,none⟩=some (.int .u64 ((sN pre:Nat):Int))/\W.frozen? ⟨w.heap.size,0,none⟩=false)/\Below w.heap.size w W)
  (fun _ _ _=>False)
  (OwnFrom.and (Own.from (fun s A B row hs hg hr=>⟨cell_kept hs.1 hg hr,(frozen_kept hs.1 hg hr).trans hs.2⟩) _) (ownFrom_below (bJE _) (by simp;omega)))
  (fun _ _ _ _ _ hs _ _=>hs)
  ⟨⟨(bS.alloc _).cell,(bS.alloc _).frozen⟩,hB0⟩
  (fun x=>{ tmps:= #[.slice a xs.length c,undef,.int .u64 0,.pointer (some ⟨w.heap.size,0,none⟩),undef,.int .u32 ((x.2.1:Nat):Int),.slice a xs.length c,.func (.func 184) #[] #[.pointer (some ⟨w.heap.size+1,0,none⟩)],.int .i64 (x.1:Int),.int .u32 ((x.2.1:Nat):Int),undef,undef,undef,undef,undef,undef],defers:=[] }) ?assign ?body ?done ?stop
 case assign=>
  intro l x W K hK
  gi_wp2
  exact hK
 case body=>
  rintro l pre x W ⟨⟨hc,hf⟩,hB⟩ hpl
  have hv:=bEe pre (by omega)
  have HV:=br (aY3 pre x)
  have hxl:=x.2.2
  have HU:=br (aIq (sN pre) x.2.1 hv hxl)
  generalize x.2.1=xw at*
  generalize sN pre=vp at*
  gi_wp2
  refine⟨(KeepsOthers.setCell _ _ _).from _,⟨(Below.refl w.heap.size W).setCell (p:=⟨w.heap.size,0,none⟩) (bJE _) _,fun v hv=> ?_⟩,⟨?_,by rw[World.frozen?_setCell];exact hf⟩,hB.setCell (p:=⟨w.heap.size,0,none⟩) (bJE _) _⟩
  ·rw[World.cell?_setCell_other]
   ·exact hv
   ·intro e;injection e with e1;omega
  ·rw[HV.out,←HU.out]
   exact World.cell?_setCell_same' _ _ _ (by rw[hc];rfl)
 case done=>
  rintro D ys W hD hys ⟨⟨hc,_⟩,hB⟩ hK
  have hval:sN ys=val xs:=by unfold sN;rw[hys.1,bNp]
  rw[hval]at hc
  clear hval hys
  gi_wp2
  refine⟨by simp,.inl ⟨_,_,rfl,run_takeDeferred hK, ?_⟩⟩
  exact⟨_,results_tmp rfl _ _ _,rfl,hB.trans (belowK_b (w:=w) (bJE _) W D _ _ (by simp at hD;omega) hK rfl rfl)⟩
 case stop=>
  rintro D c pre W _ _ h _
  exact h.elim
theorem aXs{A:Option bRb}{n c:Nat}{xs:List Nat}{w:bR3}(h:jU w (.slice A n c) xs)(hs:n<=2):
  Calls prog 178 #[.slice A n c] w fun e w'=>e= .returned (.int .u64 ((val xs:Nat):Int))/\bY w w':=by
 obtain⟨rfl,hl,hm⟩:=h.len
 exact callsIn_wide.1 (aVQ Fence.wide 3 trivial trivial trivial rfl (by omega) A c xs w h hs)
end
namespace Ev
section
open Go Go.RowKit
theorem aXd{c:TV}{y:Nat}(h:aCo c=some y):c=wc y/\y<4294967296:=by
 unfold aCo at h
 split at h
 ·split at h
  ·next g=>cases h;exact⟨rfl,g⟩
  ·cases h
 ·cases h
theorem aMa:∀ {cs:List TV} {xs:List Nat},cs.mapM aCo=some xs->cs=xs.map wc/\bD xs
 | [],xs,h=>by cases h;exact⟨rfl,fun _ h=>by cases h⟩
 |c::cs,xs,h=>by
  rw[List.mapM_cons]at h
  simp only[Option.bind_eq_bind,bJF,Option.pure_def,Option.some.injEq]at h
  obtain⟨y,h1,ys,h2,rfl⟩:=h
  obtain⟨rfl,g⟩:=aXd h1
  obtain⟨rfl,d⟩:=aMa h2
  refine⟨rfl,fun z hz=> ?_⟩
  rcases bJZ.1 hz with rfl|hz
  ·exact g
  ·exact d z hz
theorem aEW{t:TV}{xs:List Nat}(h:sK t=some xs):bD xs/\((t= .em/\xs=[])\/t= .im 1 (xs.map wc)):=by
 unfold sK at h
 split at h
 ·cases h;exact⟨(fun _ h=>by cases h),.inl ⟨rfl,rfl⟩⟩
 ·obtain⟨rfl,d⟩:=aMa h;exact⟨d,.inr rfl⟩
 ·cases h
theorem bBU{w:bR3}{v:bR4}{t:TV}{xs:List Nat}(h:WT w v t)(hx:sK t=some xs)(d:xs.length<=2):∃A c,v= .slice A xs.length c/\jU w v xs:=by
 obtain⟨i,⟨rfl,rfl⟩|rfl⟩:=aEW hx
 ·obtain⟨A,c,rfl⟩:=aKH h
  exact⟨A,c,rfl,A,c,rfl,bJJ _,by decide,i,fun h=>absurd h (bKl 0)⟩
 ·obtain⟨A,c,rfl,hc,hh⟩:=aGL (n:=xs.length) (by decide) (by simp) h
  refine⟨A,c,rfl,A,c,rfl,hc,by omega,i,fun h0=> ?_⟩
  obtain⟨b,off,e,q,j⟩:=hh h0
  refine⟨b,off,e,q,fun k r=> ?_⟩
  obtain⟨u,g1,g2⟩:=j k (wc (xs.getD k 0)) (by simp [r])
  cases g2
  exact g1
def wG(ts:List TV):Option TV:=(aDV ts).map Prod.fst
theorem aXS:aCg PG 178 wG:=fun w vs ts R s a=>by
 unfold wG aDV at a
 split at a
 ·next t=>
  rw[bJG]at a
  obtain⟨⟨R',o⟩,a,rfl⟩:=a
  rw[bJF]at a
  obtain⟨xs,hx,a⟩:=a
  split at a
  ·next d=>
   cases a
   cases s with |cons B hn=>
   cases hn
   obtain⟨A,c,rfl,C⟩:=bBU B hx d
   refine Calls.mono (aXs C d) ?_
   rintro e w' ⟨rfl,hx⟩
   exact⟨_,rfl,hx,.int _ _⟩
  ·cases a
 ·cases a
def wZ:cN:=fun f=>bif Nat.beq f 178 then some (mK wG)else none
theorem aRJ:∀(n:Nat) (xs:List Nat),(xs.map wc).all (iA (n+1))=true:=fun n xs=>by
 rw[List.all_map,bKq]
 intro x _;rfl
theorem aNP:∀xs:List Nat,cG (xs.map wc)=xs.map wc
 | []=>rfl
 |x::xs=>by simp only[bKc,cG,aNP xs];rfl
theorem aWe{pr:cN}(l:pr 178=some (mK wG)){vs:List TV}{R:TV}{own:Bool}(h:aDV vs=some (R,own)):jT PG pr 178 vs R own:=by
 refine aMi l ?_
 have h':=h
 unfold aDV at h
 split at h
 ·next t=>
  rw[bJF]at h
  obtain⟨xs,hx,h⟩:=h
  split at h
  ·next d=>
   cases h
   obtain⟨i,⟨rfl,rfl⟩|rfl⟩:=aEW hx
   ·rfl
   ·unfold oF
    cases xs with
    |nil=>rfl
    | cons x xs=>
     have D:[TV.im 1 ((x::xs).map wc)].all (iA nV)=true:=by
      show(iA (11+1) (TV.im 1 ((x::xs).map wc))&&true)=true
      rw[bKD]
      show(Nat.ble 1 1&&((x::xs).map wc).all (iA (10+1)))=true
      rw[aRJ];rfl
     rw[if_pos D]
     have hn:cG [TV.im 1 ((x::xs).map wc)]=[TV.im 1 ((x::xs).map wc)]:=by
      simp only[cG,iB,aNP]
      rw[if_neg (fun e=>by simp at e)]
     rw[hn]
     unfold wG
     rw[h']
     rfl
  ·cases h
 ·cases h
theorem aKk{pr:cN}(l:pr 178=some (mK wG))(h1:pr 93=none)(h2:pr 113=none):aCE PG pr xD:=fun f vs R own h=>by
 unfold xD at h
 cases hf:Nat.beq f 178 with
 |true=>
  rw[hf]at h
  obtain rfl:=bJY hf
  exact aWe l h
 | false=>
  rw[hf]at h
  cases hc:aGB.elem f with
  |false=>simp only[hc]at h;cases h
  | true=>
   simp only[hc,cond_true,cond_false]at h
   unfold aRA at h
   split at h
   ·cases h
    have m:f∈aGB:=List.elem_iff.1 hc
    simp only[aGB,bJZ,List.not_mem_nil,or_false]at m
    rcases m with rfl|rfl
    ·exact aYd h1
    ·exact aY0 h2
   ·cases h
theorem aS5:lH PG wZ:=fun f p h=>by
 unfold wZ at h
 cases hf:Nat.beq f 178 with
 |false=>rw[hf]at h;cases h
 |true=>
  rw[hf]at h
  cases h
  obtain rfl:=bJY hf
  refine⟨⟨_,(by kernel_rfl:PG.funcs[178]? =some f178),by intro h;cases h⟩,aPW aXS⟩
end
section
open Go Go.RowKit
variable {m:Nat}
theorem aKg:PG.follows .mixedOrders=true:=by kernel_rfl
theorem aK1:mF PG:=aYR (by kernel_rfl)
theorem bCz:wZ 178=some (mK wG):=by kernel_rfl
theorem aQi:∀f,bZ f=true->wZ f=none:=fun f h=>by
 unfold wZ
 cases hf:Nat.beq f 178 with
 |false=>rfl
 |true=>
  obtain rfl:=bJY hf
  rw[show bZ 178=false from by kernel_rfl]at h;cases h
theorem aQO:∀f,wZ f≠none->bZ.prim f=true:=fun f h=>by
 unfold wZ at h
 cases hf:Nat.beq f 178 with
 |false=>rw[hf]at h;exact absurd rfl h
 |true=>
  obtain rfl:=bJY hf
  kernel_rfl
theorem bIx(n:Nat):mR PG wZ (VX n):=aBV (aKk bCz (by kernel_rfl) (by kernel_rfl)) (fun _ h=>aDx h) aQi aQO n
theorem aAm{n:Nat}{f:bR9}{ts:List TV}{R:TV}{own:Bool}(h:VX n f ts=some (R,own)){w:bR3}(d:fZ w){vs:List bR4}(j:dF w vs ts):
  Calls PG f vs.toArray w fun e w'=>∃v,e= .returned v/\Below w.heap.size w w'/\WT w' v (pY R own):=aHT aKg aS5 aK1 (bIx n f ts R own h) d j
theorem aQU{q:Rat}(h:FR 9000000 q):VX (m+2) 139 [tR q]=some (.int .i64 (gB q),false):=by
 have hs:=aC4 (m:=m) h.1
 refine bX rfl func139 aQ4 rfl ?_
 simp only[f139,N1,bC,bF,bH,bG,bE,zB,zG]
 simp (disch:=first|rfl|omega)only[S1,aC,aE,aM,aJ,zB,reduceCtorEq,zD,zG,zH,TQ,aQ,vJ 85 rfl,hs _]
 rfl
def pR(C:List (List Rat))(x:Rat):Prop:=∃k,C.length<=400/\(∀p∈C,WD 584000 p/\p.length<=400/\584000+(k+1)*p.length<=694000)/\(x.den<2^k/\x.num.natAbs<2^k)/\k<=300000
theorem pR.ch{C:List (List Rat)}{x:Rat}(h:pR C x):ChC C x:=by
 obtain⟨k,hc,j,hx,S⟩:=h
 have fx:FR 22000 x:=qY hx (by omega)
 have fe:∀p∈C,∀q:List Rat,(∀c∈q,c∈p)->q.length<=p.length->FR 22000 (eO x q):=fun p g q hq t=>by
  obtain⟨B,J,T⟩:=j p g
  refine qY (aLM (B.sub hq) hx.1 hx.2) ?_
  have:=bK5 (k+1) t
  omega
 refine⟨fun p g=>⟨fun w d=> ?_,fun q hq t w v v' d uu i=> ?_,fun q c hq D t w v v' d uu i=> ?_⟩,by omega,fun p g=>by have:=(j p g).2.1;omega,fun p g w v d uu=> ?_⟩
 ·have h:=aAm (aI1 (m:=0) (z:=((0:Nat):Int)) (by decide) (by decide)) (w:=w) d (.cons (.int .i64 _) .nil)
  exact h
 ·have h:=aAm (aKu (m:=0) (a:=eO x q) (b:=x) ((fe p g q hq (by omega)).mono (by decide)) (fx.mono (by decide))) (w:=w) d (.cons uu (.cons i .nil))
  exact h
 ·have B:=(j p g).1
  have J:=(j p g).2.1
  have F:FR 74900 c:=(B.ps (by omega) (by omega)).2 c D
  have K:FR 74900 (eO x q*x):=((fe p g q hq (by omega)).mul fx (by decide))
  have h:=aAm (aKE (m:=0) (a:=eO x q*x) (b:=c) K F) (w:=w) d (.cons uu (.cons i .nil))
  exact h
 ·have h:=aAm (aQU (m:=0) ((fe p g p (fun _ h=>h) (bJE _)).mono (k:=9000000) (by decide))) (w:=w) d (.cons uu .nil)
  refine h.mono ?_
  rintro e w' ⟨v',rfl,y,i⟩
  cases i
  exact⟨rfl,y⟩
open Classical in
def zY(ts:List TV):Option TV:=if h:∃C x,ts=[tC C,tR x]/\pR C x then some (.int .i64 (gO h.choose h.choose_spec.choose:Nat))else none
theorem bAm:aB4 PG 130 zY:=fun w vs ts R d j A=>by
 unfold zY at A
 split at A
 ·next h=>
  cases A
  obtain⟨h1,h2⟩:=h.choose_spec.choose_spec
  rw[h1]at j
  cases j with |cons L t=>
  cases t with |cons y hn=>
  cases hn
  obtain⟨rx,rfl⟩:=aCA y
  refine(bC2 d h2.ch L y).mono ?_
  rintro e w' ⟨rfl,hx⟩
  exact⟨_,rfl,hx,.int _ _⟩
 ·cases A
theorem aS4{sz:Nat}{a b:List TV}(h:tL sz a=tL sz b):a=b:=by
 unfold tL at h
 cases a<;>cases b<;>simp_all
theorem aTq{xs ys:List Nat}(hx:bD xs)(M:bD ys)(h:tW xs=tW ys):xs=ys:=by
 have:=congrArg sK h
 rw[aFd hx,aFd M]at this
 exact Option.some.inj this
theorem aIj{a b:Nat}(h:tW (aO a)=tW (aO b)):a=b:=by
 have h1:=aTq (cU a) (cU b) h
 rw[←cO a,h1,cO]
theorem aSl{q r:Rat}(h:tR q=tR r):q=r:=by
 unfold tR cR at h
 injection h with h
 simp only[List.cons.injEq,TV.b.injEq,decide_eq_decide,and_true]at h
 obtain⟨h1,h2, -,N⟩:=h
 have G:=aIj h2
 have O:=aIj N
 refine Rat.ext ?_ ?_
 ·omega
 ·simpa using O
theorem bGU{q r:Rat}(h:cR q=cR r):q=r:=aSl (congrArg TV.ag h)
theorem aJZ{α:Type}{E:EC α}(H:∀a b,E.c a=E.c b->a=b):∀ {l s:List α},E.row l=E.row s->l=s
 | [],[],_=>rfl
 | [],b::s,h=>by
  have:=congrArg bKU h
  rw[EC.row_cons,bJW,E.len]at this
  have g:=E.pos
  simp [EC.row]at this;omega
 |a::l,[],h=>by
  have:=congrArg bKU h
  rw[EC.row_cons,bJW,E.len]at this
  have g:=E.pos
  simp [EC.row]at this;omega
 |a::l,b::s,h=>by
  rw[EC.row_cons,EC.row_cons]at h
  obtain⟨h1,h2⟩:=List.append_inj h (by rw[E.len,E.len])
  rw[H _ _ h1,aJZ H h2]
theorem bH5{l s:List Rat}(h:tP l=tP s):l=s:=aJZ (E:=bP) (fun _ _ h=>bGU h) (aS4 h)
theorem bHs{c c':List (List Rat)}(h:tC c=tC c'):c=c':=aJZ (E:=iY) (fun _ _ h=>bH5 (List.cons.inj h).1) (aS4 h)
theorem bDP{C:List (List Rat)}{x:Rat}(h:pR C x):zY [tC C,tR x]=some (.int .i64 (gO C x:Nat)):=by
 unfold zY
 have o:∃C' I,[tC C,tR x]=[tC C',tR I]/\pR C' I:=⟨C,x,rfl,h⟩
 rw[dif_pos o]
 obtain⟨h1, -⟩:=o.choose_spec.choose_spec
 have P:=bHs (List.cons.inj h1).1
 have G:=aSl (List.cons.inj (List.cons.inj h1).2).1
 have Q:gO o.choose o.choose_spec.choose=gO C x:=congr (congrArg gO P.symm) G.symm
 exact congrArg (fun n:Nat=>some (TV.int .i64 (n:Int))) Q
theorem aKR{n sz:Nat}(hs:0<sz){cs:List TV}(h:cs.all (iA n)=true):iA (n+1) (tL sz cs)=true:=by
 cases cs with
 |nil=>rfl
 |cons c cs=>
  show(Nat.ble 1 sz&&(c::cs).all (iA n))=true
  rw[bKX hs,h];rfl
theorem aTR{n:Nat}{xs:List Nat}:iA (n+2) (tW xs)=true:=aKR (by decide) (aRJ n xs)
theorem aU8{n:Nat}{q:Rat}:(cR q).all (iA (n+2))=true:=by
 unfold cR
 simp only[bKK,bLk,aTR,bKD];rfl
theorem bIg{n:Nat}{q:Rat}:iA (n+3) (tR q)=true:=aU8
theorem aK5{α:Type}{E:EC α}{n:Nat}(h:∀a,(E.c a).all (iA n)=true):∀l:List α,(E.row l).all (iA n)=true
 | []=>rfl
 |a::l=>by rw[EC.row_cons,List.all_append,h a,aK5 h l];rfl
theorem bHZ{n:Nat}{l:List Rat}:iA (n+3) (tP l)=true:=aKR (by decide) (aK5 (E:=bP) (fun _=>aU8) l)
theorem bIA{n:Nat}{c:List (List Rat)}:iA (n+4) (tC c)=true:=aKR (by decide) (aK5 (E:=iY) (fun _=>by simp only[iY,bKK,bLk,bHZ,bKD]) c)
theorem aT3{C:List (List Rat)}{x:Rat}(h:pR C x):oF zY [tC C,tR x]=some (.int .i64 (gO C x:Nat),false):=by
 unfold oF
 rw[if_pos (by simp only[bKK,bLk,nV,bIA,bIg,bKD])]
 rw[(aKB C x).2,bDP h]
 rfl
end
section
variable {m:Nat}
def qH:cP:=fun f args=>bif Nat.beq f 130 then oF zY args else xD f args
abbrev VY:Nat->cP:=fY PG bZ qH
theorem bET{args:List TV}:xD 130 args=none:=rfl
theorem bJm:nY xD qH:=fun f args r h=>by
 unfold qH
 cases hf:Nat.beq f 130 with
 |false=>exact h
 |true=>
  obtain rfl:=bJY hf
  rw[bET]at h;cases h
theorem xy(n:Nat):nY (VX n) (VY n):=aJD bJm (fun f args r h0 h1=>by
 unfold qH at h1
 cases hf:Nat.beq f 130 with
 |false=>rw[hf]at h1;simp only[cond_false]at h1;rw[h0]at h1;cases h1
 |true=>
  obtain rfl:=bJY hf
  kernel_rfl) n
theorem aUo{C:List (List Rat)}{x:Rat}(h:pR C x):CC (VY (m+1)) 130 [tC C,tR x] (.int .i64 (gO C x:Nat)):=by
 refine .of (aKB C x) (aT5 C x) ?_
 have i:qH 130 [tC C,tR x]=some (.int .i64 (gO C x:Nat),false):=aT3 h
 show(match qH _ _ with |some r=>some r|none=>_)=_
 rw[i]
theorem bFL(c:List (List Rat))(q r:Rat):Can [tC c,tR q,tR r]:=Can.cons (aKn c) (pK q r)
theorem bEw(c:List (List Rat))(q r:Rat):bT [tC c,tR q,tR r]<=cL:=by simp only[bT,aKm,vV];decide
theorem bD9:bO PG 140 f140 [6] []=true:=by kernel_rfl
theorem bFT{C:List (List Rat)}{x y:Rat}(hx:pR C x)(d:pR C y)(nx:gO C x<=400)(ny:gO C y<=400):VY (m+2) 140 [tC C,tR x,tR y]=some (.int .i64 ((gO C x:Int)-(gO C y:Int)),false):=by
 have c3:=aUo (m:=m) hx
 have c4:=aUo (m:=m) d
 refine bX rfl func140 bD9 rfl ?_
 simp only[f140,N1,bC,bF,bH,bG,bE,zB,zG]
 simp (disch:=first|rfl|omega)only[S1,aC,aE,aM,aJ,zB,reduceCtorEq,zD,zG,zH,aU,c3 _,c4 _,aRu (show gO C x<1000000 by omega) (show gO C y<1000000 by omega)]
theorem bG5{C:List (List Rat)}{x y:Rat}(hx:pR C x)(d:pR C y)(nx:gO C x<=400)(ny:gO C y<=400):CC (VY (m+2)) 140 [tC C,tR x,tR y] (.int .i64 ((gO C x:Int)-(gO C y:Int))):= .of (bFL C x y) (bEw C x y) (bFT hx d nx ny)
theorem aMx{a:List Rat}{k j:Nat}{x:Rat}(h:gN k a)(hx:x.den<2^j/\x.num.natAbs<2^j)(g:(j+1)*(tr a).length<=110000):pR (iV a) x:=by
 have h2:=h.two
 have v:=h.len
 have ta:=fN a
 have l:(j+1)*1<=(j+1)*(tr a).length:=bK5 _ (by omega)
 have s:=h.all.2
 exact⟨j,by omega,fun p i=>by
  obtain⟨t,i2⟩:=h.all.1 p i
  have:=bK5 (j+1) i2
  exact⟨t,by omega,by omega⟩,hx,by omega⟩
theorem bBS:bO PG 56 f56 [6] []=true:=by kernel_rfl
theorem bCS{a:List Rat}{k j:Nat}{x y:Rat}(h:gN k a)(hx:x.den<2^j/\x.num.natAbs<2^j)(d:y.den<2^j/\y.num.natAbs<2^j)(g:(j+1)*(tr a).length<=110000):VY (m+15) 56 [tP a,tR x,tR y]=some (.int .i64 (yU a x y),false):=by
 have h2:=h.two
 have l:(j+1)*1<=(j+1)*(tr a).length:=bK5 _ (by omega)
 have fx:FR 74900 x:=qY hx (by omega)
 have fy:FR 74900 y:=qY d (by omega)
 have c1:=(aSj (m:=m+9) (a:=x) (b:=y) fx fy).up (xy _)
 have c2:=(bGV (m:=m) h).up (xy _)
 have n1:=aGl h x
 have u:=aGl h y
 have c3:=bG5 (m:=m+12) (aMx h hx g) (aMx h d g) n1 u
 refine bX rfl func56 bBS rfl ?_
 simp only[f56,N1,bC,bF,bH,bG,bE,zB,zG]
 simp (disch:=first|rfl|omega)only[S1,aC,aE,aM,aJ,zB,reduceCtorEq,zD,zG,zH,aU,vJ 55 rfl,c1 _,aAG]
 unfold yU
 refine cM (fun e=> ?_) (fun e=> ?_)
 ·rw[if_pos (ae e)]
  simp (disch:=first|rfl|omega)only[S1,aC,aE,aM,aJ,zB,reduceCtorEq]
  rfl
 ·rw[if_neg (af e)]
  simp (disch:=first|rfl|omega)only[S1,zB,reduceCtorEq,zD,zG,zH,aU,c2 _,c3 _]
theorem bFy{a:List Rat}{k j:Nat}{x y:Rat}(h:gN k a)(hx:x.den<2^j/\x.num.natAbs<2^j)(d:y.den<2^j/\y.num.natAbs<2^j)(g:(j+1)*(tr a).length<=110000):CC (VY (m+15)) 56 [tP a,tR x,tR y] (.int .i64 (yU a x y)):= .of (aRl a x y) (aQW a x y) (bCS h hx d g)
theorem bAs:bO PG 92 f92 [2] []=true:=by kernel_rfl
theorem bDl{a:List Rat}{k:Nat}(h:gN k a):VY (m+16) 92 [tP a]=some (.int .i64 (aAK a),false):=by
 have w:=h.k9
 have c1:=(bEv (m:=m+2) h).up (xy _)
 have o:=aEP h.wd
 have c2:=bFy (m:=m) (j:=k+2) h (aNN o) o (by have:=h.h2;rw[show k+2+1=k+3 from rfl];omega)
 refine bX rfl func92 bAs rfl ?_
 simp only[f92,N1,bC,bF,bH,bG,bE,zB,zG]
 simp (disch:=first|rfl|omega)only[S1,aC,aE,aM,aJ,zB,reduceCtorEq,zD,zG,zH,aU,TQV,aQ,vJ 128 rfl,c1 _,vJ 56 rfl,c2 _]
 rfl
theorem bFM{a:List Rat}{k:Nat}(h:gN k a):CC (VY (m+16)) 92 [tP a] (.int .i64 (aAK a)):= .of (iM a) (jD a) (bDl h)
theorem bFh:bO PG 83 f83 [2] []=true:=by kernel_rfl
theorem bHG{x:Bool×List Nat}(h:x.2.length<10000000):VX (m+2) 83 [tX x]=some (.b (!eA x),false):=by
 have c1:=aOp (m:=m) (x:=x) h
 refine bX rfl func83 bFh rfl ?_
 simp only[f83,N1,bC,bF,bH,bG,bE,zB,zG]
 have hf:TV.ag [.b x.1,tW x.2]=tX x:=rfl
 simp (disch:=first|rfl|omega)only[S1,aC,aE,aM,aJ,zB,reduceCtorEq,zD,zG,zH,TF,hf,vJ 84 rfl,c1 _]
theorem bGn{x:Bool×List Nat}(h:x.2.length<10000000):CC (VX (m+2)) 83 [tX x] (.b (!eA x)):= .of (aKb x) (aKf x) (bHG h)
def zP:List (Bool×List Nat)->Nat->Int
 | [],_=> -1
 |x::l,j=>if eA x then zP l (j+1)else(j:Int)
theorem aPP:∀(l:List (Bool×List Nat)) (j:Nat),decide (0<=zP l j)= !l.all eA
 | [],_=>rfl
 |x::l,j=>by
  unfold zP
  rw[bKK]
  cases hx:eA x with
  |false=>rw[if_neg (by decide)];exact ak (Int.natCast_nonneg j)
  |true=>rw[if_pos rfl,aPP l (j+1)];rfl
def sY:TV:= .fn 83 [] []
theorem aSv(l:List (Bool×List Nat)):Can [eV l,sY]:=Can.cons (eP.t_can l) (Can.cons ⟨rfl,rfl⟩ Can.nil)
theorem aST(l:List (Bool×List Nat)):bT [eV l,sY]<=cL:=by simp only[bT,aJW,sY,cV];decide
theorem bEa:bO PG 175 f175 [4,16] []=true:=by kernel_rfl
theorem bGT{l:List (Bool×List Nat)}(h:l.length<=1000)(a:∀x∈l,x.2.length<10000000):VX (m+3) 175 [eV l,sY]=some (.int .i64 (zP l 0),false):=by
 refine bX rfl func175 bEa rfl ?_
 simp only[f175,N1,bC,bF,bH,bG,bE,zB,zG]
 simp (disch:=first|rfl|omega)only[S1,aN,aC,aE,aM,aJ,zB,zD,TF]
 refine .up (fun j e s=>s=dZ/\e 0=some (eV l)/\e 1=some sY/\e 7=some (.int .i64 (l.length:Nat))/\e 8=some (.int .i64 (j:Nat))/\zP l 0=zP (l.drop j) j) l.length ?_ (dB (by omega)) ?_
 ·refine⟨rfl, ?_, ?_, ?_, ?_,rfl⟩<;>simp (disch:=first|rfl|omega)only[S1,zB]
 ·rintro j e s n ⟨rfl,e0,c,d,f,b⟩
  by_cases hc:j<l.length
  ·have h1:decide (j<l.length)=true:=ak hc
   obtain⟨x,hx⟩:∃x,x=l.getD j (false,[]):=⟨_,rfl⟩
   have i:x∈l:=by rw[hx];exact zU hc
   have c1:=bGn (m:=m) (x:=x) (a x i)
   have k:l.drop j=x::l.drop (j+1):=by rw[bLx hc,hx];simp [hc]
   rw[k,zP]at b
   simp (disch:=first|rfl|omega)only[S1,zB,e0,c,d,f,h1,sY,pD,pI,←hx,vJ 83 rfl,c1 _]
   cases g:eA x
   ·rw[g,if_neg (by decide)]at b
    simp (disch:=first|rfl|omega)only[S1,zB,reduceCtorEq]
    rw[b]
   ·rw[g,if_pos rfl]at b
    simp (disch:=first|rfl|omega)only[S1,aC,aE,aM,aJ,zB,e0,c,d,f,sY]
    exact⟨hc,b⟩
  ·have h1:decide (j<l.length)=false:=ai hc
   obtain rfl:j=l.length:=by omega
   rw[List.drop_length]at b
   simp (disch:=first|rfl|omega)only[S1,aC,aE,aM,aJ,zB,reduceCtorEq,d,f,h1]
   rw[b];rfl
theorem bFX{l:List (Bool×List Nat)}(h:l.length<=1000)(a:∀x∈l,x.2.length<10000000):CC (VX (m+3)) 175 [eV l,sY] (.int .i64 (zP l 0)):= .of (aSv l) (aST l) (bGT h a)
theorem bED:bO PG 82 f82 [4] []=true:=by kernel_rfl
theorem bGB{l:List (Bool×List Nat)}(h:l.length<=1000)(a:∀x∈l,x.2.length<10000000):VX (m+4) 82 [eV l,sY]=some (.b (!l.all eA),false):=by
 have c1:=bFX (m:=m) h a
 refine bX rfl func82 bED rfl ?_
 simp only[f82,N1,bC,bF,bH,bG,bE,zB,zG]
 simp (disch:=first|rfl|omega)only[S1,aC,aE,aM,aJ,zB,reduceCtorEq,zD,vJ 175 rfl,c1 _,aAG,aPP]
theorem bHB{l:List (Bool×List Nat)}(h:l.length<=1000)(a:∀x∈l,x.2.length<10000000):CC (VX (m+4)) 82 [eV l,sY] (.b (!l.all eA)):= .of (aSv l) (aST l) (bGB h a)
theorem aJE{n:Nat}:decide (iz n=0)=decide (n=1):=by
 refine decide_eq_decide.2 ?_
 unfold iz
 cases n with
 |zero=>simp
 |succ n=>simp
theorem aSU{K N:Nat}(hK:1<=K):∀(f:Nat) (p q:List Rat),WD (K*3^(N-p.length)-1) p->WD (K*3^(N-p.length)-1) q->NF p->NF q->q.length<f->q.length<p.length->p.length<=N->WD (K*3^(N-1)) (qE f p q)/\(qE f p q).length<=N/\NF (qE f p q)
 |0,_,_,_,_,_,_,h,_,_=>absurd h (bKM _)
 | f+1,p,q,wp,wq,np,nq,hf,d,hN=>by
  unfold qE
  by_cases U:q=[]
  ·rw[if_pos U]
   have:=bK5 K (bK2 (show 0<3 by decide) (show N-p.length<=N-1 by omega))
   exact⟨wp.mono (by omega),hN,np⟩
  ·rw[if_neg U]
   obtain⟨J,V,Z⟩:=aBR wp wq np nq U d hN hK
   obtain⟨F,L⟩:=aBv (a:=p) (b:=q) (by rw[nq.eq];exact U)
   rw[nq.eq]at F
   have lm:=kX (fH p q)
   rw[L.eq]at lm
   exact aSU hK f q (bL (fH p q)) V J.monic nq (.pmonic _) (by omega) (by omega) (by omega)
theorem bEH{a b:List Rat}{k:Nat}(ha:WD k a)(hb:WD k b)(e':(tr b).length<(tr a).length):WD ((k+1)*3^((tr a).length-1)) (gF a b)/\(gF a b).length<=(tr a).length/\NF (gF a b):=by
 have la:=kX a
 have lb:=kX b
 exact aSU (by omega) _ _ _ (by rw[la,bKS,bLe,bKk];exact ha.monic) (by rw[la,bKS,bLe,bKk];exact hb.monic) (.pmonic a) (.pmonic b) (bJT _) (by omega) (by omega)
theorem aZo:bO PG 34 f34 [2,43,30,33,31,32,27] []=true:=by kernel_rfl
theorem bCx{l:List (Bool×List Nat)}{r:Int}(h:l.length<=8)(d:∀x∈l,bD x.2/\val x.2<2^256/\x.2.length<1000)(_: -9223372036854775808<=r/\r<9223372036854775808):VY (m+17) 34 [tF l r]=some (.b (l.all eA&&vz (l.map cE) r),false):=by
 refine bX rfl func34 aZo rfl ?_
 simp only[f34,N1,bC,bF,bH,bG,bE,zB,zG]
 have i:(l.map cE).length=l.length:=bKo _
 have k1:CC (VY (m+16)) 82 [eV l,.fn 83 [] []] (.b (!l.all eA)):=(bHB (m:=m+12) (l:=l) (by omega) (fun x hx=>by have:=(d x hx).2.2;omega)).up (xy _)
 cases G:decide (l.length<2)
 case true=>
  simp (disch:=first|rfl|omega)only[S1,aN,aC,aE,aM,aJ,zB,reduceCtorEq,zD,zG,zH,TF,aQ,G]
  refine rb ?_
  unfold vz
  rw[i,ai (by have:=ae G;omega)]
  cases l.all eA<;>rfl
 case false=>
 have h2:2<=l.length:=by have:=af G;omega
 cases hG:l.all eA
 case false=>
  rw[hG]at k1
  simp (disch:=first|rfl|omega)only[S1,aN,aC,aE,aM,aJ,zB,reduceCtorEq,zD,zG,zH,TF,aQ,G,vJ 82 rfl,k1 _]
 case true=>
 rw[hG]at k1
 rw[bKI]
 have C:∀x∈l,eA x=true:=bKq.1 hG
 have hL:∀x∈l,bD x.2:=fun x hx=>(d x hx).1
 have a':∀z∈l.map cE,z.natAbs<2^256:=fun z H=>by
  obtain⟨x,hx,rfl⟩:=bKP.1 H
  rw[qV];exact(d x hx).2.1
 have sz:rS (l.map cE):=⟨by omega,a'⟩
 obtain⟨x,hx⟩:∃x,x=l.getD (l.length-1) (false,[]):=⟨_,rfl⟩
 have hm:x∈l:=by rw[hx];exact zU (by omega)
 have H:=tT (hL x hm) (C x hm)
 have c:(l.map cE).getD ((l.map cE).length-1) 0=cE x:=by rw[i,hx];simp [show l.length-1<l.length by omega]
 have fz:aX 9 (cE x).natAbs:=by rw[qV];exact bKV (d x hm).2.1 (by decide)
 have c1:=(aC4 (m:=m+15) (z:=cE x) (fz.mono (by decide))).up (xy _)
 cases hB:decide ((cE x).sign<=0)
 case true=>
  simp (disch:=first|rfl|omega)only[S1,aN,aC,aE,aM,aJ,zB,reduceCtorEq,zD,zG,zH,TF,aQ,G,vJ 82 rfl,k1 _,pD,pI,←hx,H,vJ 85 rfl,c1 _,aDM,hB]
  refine rb ?_
  unfold vz
  rw[c,ai (p:=0<cE x) (by have:=ae hB;have:=Int.sign_nonpos_iff.1 this;omega),bMl];rfl
 case false=>
 have o:0<cE x:=by
  have h3:=af hB
  rcases Int.lt_trichotomy (cE x) 0 with h4|h4|h4
  ·rw[Int.sign_eq_neg_one_of_neg h4]at h3;omega
  ·rw[h4]at h3;exact absurd (Int.le_refl 0) h3
  ·exact h4
 have g0:=(aD8 (m:=m+13) (z:=((0:Nat):Int)) (by decide) (by decide)).up (xy _)
 simp (disch:=first|rfl|omega)only[S1,aN,aC,aE,aM,aJ,zB,reduceCtorEq,zD,zG,zH,TF,TI,aQ,G,vJ 82 rfl,k1 _,pD,pI,←hx,H,vJ 85 rfl,c1 _,aDM,hB,vJ 86 rfl,g0 _]
 refine .up (fun j e s=>2<=s.nxt/\s.ob 0=⟨0,[eV l,.int .i64 r]⟩/\(∃g:Int,g=(gz ((l.take j).map cE):Nat)/\s.ob 1=⟨0,[.b (decide (g<0)),tW (aO g.natAbs)]⟩)/\e 1=some (.po 0 0)/\e 3=some (.po 1 0)/\e 30=some (eV l)/\e 31=some (.int .i64 (l.length:Nat))/\e 32=some (.int .i64 (j:Nat))) l.length ?_ (dB (by omega)) ?_
 ·refine⟨bJE _,rfl,⟨_,rfl,rfl⟩, ?_, ?_, ?_, ?_, ?_⟩<;>simp (disch:=first|rfl|omega)only[S1,zB]
 ·rintro j e s hj ⟨sn,M,⟨g,t,s1⟩,O,P,u,v,A⟩
  have b0:(0==s.nxt)=false:=by rw[ao];omega
  have b1:(1==s.nxt)=false:=by rw[ao];omega
  have b2:(s.nxt==0)=false:=by rw[ao];omega
  have b3:(s.nxt==1)=false:=by rw[ao];omega
  have Q:∀z∈(l.take j).map cE,z.natAbs<2^256:=fun z H=>by
   obtain⟨x,hx,rfl⟩:=bKP.1 H
   rw[qV];exact(d x (bM6 hx)).2.1
  have fg:aX 9 g.natAbs:=by rw[t];exact bKV (aTW Q) (by decide)
  by_cases hc:j<l.length
  ·have h1:decide (j<l.length)=true:=ak hc
   obtain⟨y,hy⟩:∃y,y=l.getD j (false,[]):=⟨_,rfl⟩
   have D:y∈l:=by rw[hy];exact zU hc
   have b':=tT (hL y D) (C y D)
   have fy:aX 9 (cE y).natAbs:=by rw[qV];exact bKV (d y D).2.1 (by decide)
   have c2:=(aKc (m:=m+10) (z:=g) (w:=cE y) (fg.mono (by decide)) (fy.mono (by decide))).up (xy _)
   have et:l.take (j+1)=l.take j++[y]:=by rw[bLd hc,hy];simp [hc]
   simp (disch:=first|rfl|omega)only[S1,aC,aE,aM,aJ,zB,reduceCtorEq,zD,zH,TI,M,s1,O,P,u,v,A,h1,b0,b1,pD,pI,←hy,b',vJ 87 rfl,c2 _]
   refine⟨hc,by omega,⟨_, ?_,rfl⟩⟩
   rw[et,bL6,show [y].map cE=[cE y]from rfl,aN8,t]
  ·have h1:decide (j<l.length)=false:=ai hc
   obtain rfl:j=l.length:=by omega
   rw[bKp]at t Q
   have W:=(aD8 (m:=m+13) (z:=((1:Nat):Int)) (by decide) (by decide)).up (xy _)
   have X:=(aSJ (m:=m+12) (z:=g) (w:=((1:Nat):Int)) (fg.mono (by decide)) (aX.one (by decide))).up (xy _)
   cases I:decide ((g-((1:Nat):Int)).sign=0)
   case false=>
    simp (disch:=first|rfl|omega)only[S1,aC,aE,aM,aJ,zB,reduceCtorEq,zD,zH,TI,s1,P,v,A,h1,W _,X _,aCa,I]
    refine rb ?_
    unfold vz
    rw[ai (p:=gz (l.map cE)=1) (fun h=>af I (by rw[t,h];rfl)),bMl];rfl
   case true=>
   have R:gz (l.map cE)=1:=by have:=Int.sign_eq_zero_iff_zero.1 (ae I);rw[t]at this;omega
   have F:=(bBG (m:=m+6) (l:=l) (by omega) hL (fun x hx=>aX.mono (j:=9) (show val x.2<4294967296^9 from bKV (d x hx).2.1 (by decide)) (by decide)) C).up (xy _)
   obtain⟨zs,c'⟩:∃zs,zs=l.map cE:=⟨_,rfl⟩
   rw[←c']at c i sz R F ⊢
   have E:2<=zs.length:=by omega
   obtain⟨J,V,Z,w4,w5⟩:=aOz sz E (by rw[c];exact o)
   have f':=xY zs
   have hd:=aBG (dP zs)
   have L:=(aKv (m:=m+6) (l:=dP zs) (J.ps (by decide) (by omega))).up (xy _)
   have r3:=(aQq (m:=m+4) J V (by omega) (by omega) Z w4).up (xy _)
   have S:=aQ2 (b:=dV (dP zs)) w5
   obtain⟨q1,q2,q3⟩:=bEH J V Z
   have ta:=fN (dP zs)
   have Y:=(aIm (m:=m+11) (l:=gF (dP zs) (dV (dP zs))) ((q1.mono w4).ps (by decide) (by omega))).up (xy _)
   rw[q3.eq]at Y
   unfold vz
   rw[ak E,c,ak o,ak R,bKI,bKI,bKI]
   cases T:decide ((gF (dP zs) (dV (dP zs))).length=1)
   case false=>
    simp (disch:=first|rfl|omega)only[S1,aC,aE,aM,aJ,zB,reduceCtorEq,zD,zH,aU,TF,TI,aQ,M,s1,O,P,v,A,h1,W _,X _,aCa,I,vJ 89 rfl,F _,L _,r3 _,Y _,aJE,T]
    refine rb ?_
    rw[ai (p:=gF (dP zs) (dV (dP zs))=[1]) (fun h=>af T (S.2 h)),Bool.false_and];rfl
   case true=>
   have B:=S.1 (ae T)
   rw[ak B,bKI]
   cases hE:decide (0<=r)
   case false=>
    simp (disch:=first|rfl|omega)only[S1,aC,aE,aM,aJ,zB,reduceCtorEq,zD,zH,aU,TF,TI,aQ,M,s1,O,P,v,A,h1,W _,X _,aCa,I,vJ 89 rfl,F _,L _,r3 _,Y _,aJE,T,aAG,hE]
   case true=>
   have c3:=bFM (m:=m) (aJ8 sz E (by rw[c];exact o) B)
   have d':decide ((l.length:Int)<(l.length:Int))=false:=ai (Int.lt_irrefl _)
   simp (disch:=first|rfl|omega)only[S1,aC,aE,aM,aJ,zB,reduceCtorEq,zD,zH,aU,TF,TI,aQ,M,s1,O,P,v,A,d',W _,X _,aCa,I,vJ 89 rfl,F _,L _,r3 _,Y _,aJE,T,aAG,hE,c3 _,aAz]
theorem bCd{l:List (Bool×List Nat)}{r:Int}(h:l.length<=8)(d:∀x∈l,bD x.2/\val x.2<2^256/\x.2.length<1000)(hr: -9223372036854775808<=r/\r<9223372036854775808):CC (VY (m+17)) 34 [tF l r] (.b (l.all eA&&vz (l.map cE) r)):= .of (bGs l r) (bGg l r) (bCx h d hr)
end
section
open Go Go.RowKit
variable {m:Nat}
def xE:cN:=fun f=>bif Nat.beq f 130 then some (zJ zY)else wZ f
theorem bG6:lH PG xE:=fun f p h=>by
 unfold xE at h
 cases hf:Nat.beq f 130 with
 |false=>rw[hf]at h;exact aS5 f p h
 |true=>
  rw[hf]at h
  cases h
  obtain rfl:=bJY hf
  refine⟨⟨_,(by kernel_rfl:PG.funcs[130]? =some f130),by intro h;cases h⟩,aP8 bAm⟩
theorem bCQ:∀f,bZ f=true->xE f=none:=fun f h=>by
 unfold xE
 cases hf:Nat.beq f 130 with
 |false=>exact aQi f h
 |true=>
  obtain rfl:=bJY hf
  rw[show bZ 130=false from by kernel_rfl]at h;cases h
theorem bEV:∀f,xE f≠none->bZ.prim f=true:=fun f h=>by
 unfold xE at h
 cases hf:Nat.beq f 130 with
 |false=>rw[hf]at h;exact aQO f h
 |true=>
  obtain rfl:=bJY hf
  kernel_rfl
end
section
open Go Go.RowKit
def aCC(g:List TV->Option (List TV)):List AV->St->KS->OR:=fun args st k=>match aGG st with
 | true=>match iQ (sL nV st) args with
  |some ts=>match (g ts).bind (iQ lW)with
   |some aS=>k (.sl st.nxt 0 aS.length (some aS.length) 1) (st.new ⟨aS,true⟩)
   |none=>none
  |none=>none
 |false=>none
def aKX(P:bR8)(f:bR9)(g:List TV->Option (List TV)):Prop:=∀(w:bR3) (vs:List bR4) (ts L:List TV),fZ w->dF w vs ts->g ts=some L->
 ∃(el:TypeId) (xs:List bR4),dF w xs L/\Calls P f vs.toArray w fun e w'=>e= .returned (.slice (some ⟨w.heap.size,0,none⟩) L.length L.length)/\w'=w.alloc (.cells xs.toArray el)
theorem dF.len{w:bR3}:∀ {vs:List bR4} {ts:List TV},dF w vs ts->vs.length=ts.length
 | [],_,h=>by cases h;rfl
 |_::_,_,h=>by cases h with |cons _ o=>simp [o.len]
theorem bFo{P:bR8}{f:bR9}{g:List TV->Option (List TV)}(h:aKX P f g):aAR P f (aCC g):=fun {args st k r Γ w vs} q hs hc=>by
 unfold aCC at q
 split at q
 ·next C=>
  have u:=aM3 hs C
  split at q
  ·next ts x=>
   split at q
   ·next aS A=>
    rw[bJF]at A
    obtain⟨L,h1,h2⟩:=A
    have D:=aAe (w:=w) (fun a t v e c=>aES hs nV a t v e c) x hc
    obtain⟨el,xs,i,d⟩:=h w vs ts L u D h1
    have o:=aJ5 h2
    have E:=i.len
    intro K G
    refine Calls.mono d ?_
    rintro e w' ⟨rfl,rfl⟩
    have H:=dH.new hs (b:=⟨aS,true⟩) (cs:=xs.toArray) el (by
     rw[List.take_of_length_le (by simp;omega)]
     exact aI2 h2 i) (by simp;omega) (fun _=>by simp;omega)
    refine G _ _ _ _ _ q H ?_
    rw[←o]
    refine .sl (p:=w.heap.size) (s:=xs.toArray.size) ?_ (bJE _) (fun k I=>by cases I;rfl) (by simp;omega)
    rw[aP.add_self]
   ·cases q
  ·cases q
 ·cases q
def aEk(g:List TV->Option (List TV))(vs:List TV):Option (TV×Bool):=if vs.all (iA nV)=true then(g (cG vs)).bind fun L=>(iQ lW L).map fun _=>(.im 1 L,false)else none
theorem bEd{t:TV}{a:AV}(h:lW t=some a):∀l,mS (a::l)=false:=fun l=>by
 unfold lW at h
 split at h<;>cases h<;>rfl
theorem aM2:∀ {ts:List TV} {aS:List AV},iQ lW ts=some aS->dI ts=true
 | [],_,_=>rfl
 |t::ts,aS,e=>by
  obtain⟨b,J,rfl,h1,h2⟩:=aAf e
  simp only[dI,aHU h1,aM2 h2,bKr]
theorem aYO{P:bR8}{pr:cN}{f:bR9}{g:List TV->Option (List TV)}(M:pr f=some (aCC g)){vs:List TV}{R:TV}{own:Bool}(h:aEk g vs=some (R,own)):jT P pr f vs R own:=by
 unfold aEk at h
 split at h
 ·next y=>
  simp only[bJF,bJG]at h
  obtain⟨L,h1,aS,h2,N⟩:=h
  cases N
  intro st vas F O Q S j T B m
  have o:=aJ5 h2
  have z:mS aS=false:=by
   cases aS with
   |nil=>rfl
   | cons a l=>
    cases L with
    |nil=>cases h2
    |cons t ts=>
     obtain⟨b,J,e,g1, -⟩:=aAf h2
     cases e
     exact bEd g1 _
  refine⟨.sl st.nxt 0 aS.length (some aS.length) 1,st.new ⟨aS,true⟩,fun id=>F id\/id=st.nxt,⟨?_, ?_,fun _ h=> .inl h,fun id h=>h.imp (fun h=>h) fun e=> ?_,fun id U=>vM st _ U,rfl,rfl, ?_,fun h=>by cases h⟩,0,fun n _ k=> ?_⟩
  ·refine .im (blk:=⟨aS,true⟩) (.inr rfl) ⟨Tr.put_same _ _ _,z⟩ (by simp) ?_
   simp only[List.drop_zero,bKk,bKp]
   exact aIs h2
  ·simpa only[cI]using aM2 h2
  ·rw[e];exact⟨bJE _,by rw[mE];exact bJT _⟩
  ·rw[mE];exact Nat.le_succ _
  have V:=aAl (aEX (st:=st) (F:=F) j nV) Q y
  show(Option.rec (motive:=fun _=>IH->List AV->St->KS->OR) (wY P (P.funcs[f]?)) (fun p _=>p) (pr f)) _ vas st k=_
  rw[M]
  show aCC g vas st k=_
  unfold aCC
  rw[aP1 m]
  simp only[V,h1,bJM,h2]
 ·cases h
end
end Ev
theorem aPX{c:UInt8}{t l:List UInt8}(h:∀b∈l,b≠c):bt l (c::t)= -1:=Lib.index_none fun j _=>by
 cases d:bw l (c::t) j with
 |false=>rfl
 |true=>
  have h1:=bz rfl d
  exact absurd rfl (h c (List.mem_of_getElem? h1))
theorem aIF{c:UInt8}{t l r:List UInt8}(h:∀b∈l,b≠c):bt (l++((c::t)++r)) (c::t)=l.length:=by
 refine Lib.index_first (by simp) ?_ fun j m=> ?_
 ·unfold bw
  rw[bMu]
  rw[bNq]
  exact List.prefix_append _ _
 ·cases d:bw (l++((c::t)++r)) (c::t) j with
  |false=>rfl
  |true=>
   have h1:=bz rfl d
   rw[List.getElem?_append_left m]at h1
   exact absurd rfl (h c (List.mem_of_getElem? h1))
theorem bGf{c:UInt8}{t l r:List UInt8}(h:∀b∈l,b≠c):Lib.cut (l++((c::t)++r)) (c::t)=(l,r,true):=by
 unfold Lib.cut
 rw[aIF h,if_pos (Int.natCast_nonneg _),bLc,List.take_left,←bKH,show l.length+(c::t).length=(l++(c::t)).length by rw[bJW],bMu]
theorem aLF(p s:List UInt8):ce (p++s) p=true:=by
 unfold ce
 rw[bNq]
 exact List.prefix_append _ _
theorem aLE(p s:List UInt8):cg (p++s) p=s:=by
 unfold cg
 rw[aLF,if_pos rfl,bMu]
def cX(c:UInt8):List (List UInt8)->List UInt8
 | []=>[]
 | [w]=>w
 |w::v::ws=>w++c::cX c (v::ws)
theorem aMj{c:UInt8}:∀(ws:List (List UInt8)) (w:List UInt8) (f:Nat),(∀v∈w::ws,∀b∈v,b≠c)->ws.length<f->cj [c] f (cX c (w::ws))=ws.length
 | [],w,f,h,hf=>by
  obtain⟨g,rfl⟩:∃g,f=g+1:=⟨f-1,by simp at hf;omega⟩
  unfold cj cX
  rw[aPX (h w bKn)];rfl
 |v::ws,w,f,h,hf=>by
  simp only[bJN]at hf ⊢
  obtain⟨g,rfl⟩:∃g,f=g+1:=⟨f-1,by omega⟩
  unfold cj cX
  have e:bt (w++c::cX c (v::ws)) [c]=w.length:=aIF (t:=[]) (r:=cX c (v::ws)) (h w bKn)
  rw[e]
  have a:((w.length:Int)== -1)=false:=by rw[ao];omega
  rw[a,if_neg (by decide),bLc]
  rw[show w++c::cX c (v::ws)=(w++[c])++cX c (v::ws) by simp,show w.length+ [c].length=(w++[c]).length by simp,bMu]
  rw[aMj ws v g (fun u i=>h u (bKx _ i)) (by omega)]
  omega
theorem aMX{c:UInt8}:∀(ws:List (List UInt8)) (w:List UInt8),ws.length<=(cX c (w::ws)).length
 | [],_=>bJJ _
 |v::ws,w=>by
  unfold cX
  have:=aMX (c:=c) ws v
  simp only[bJW,bJN]
  omega
theorem bBV{c:UInt8}{ws:List (List UInt8)}{w:List UInt8}(h:∀v∈w::ws,∀b∈v,b≠c):Lib.count (cX c (w::ws)) [c]=ws.length:=
 aMj ws w _ h (Nat.lt_succ_of_le (aMX ws w))
theorem aF9{c:UInt8}:∀(ws:List (List UInt8)) (w:List UInt8) (k:Nat),(∀v∈w::ws,∀b∈v,b≠c)->ws.length<=k->ck [c] 0 k (cX c (w::ws))=w::ws
 | [],w,k,h,_=>by
  cases k with
  |zero=>rfl
  |succ k=>
   unfold ck cX
   rw[aPX (h w bKn)];rfl
 |v::ws,w,k,h,n=>by
  simp only[bJN]at n
  obtain⟨g,rfl⟩:∃g,k=g+1:=⟨k-1,by omega⟩
  unfold ck cX
  have e:bt (w++c::cX c (v::ws)) [c]=w.length:=aIF (t:=[]) (r:=cX c (v::ws)) (h w bKn)
  rw[e]
  have a:((w.length:Int)== -1)=false:=by rw[ao];omega
  rw[a,if_neg (by decide),bLc]
  rw[show w++c::cX c (v::ws)=(w++[c])++cX c (v::ws) by simp,show w.length+ [c].length=(w++[c]).length by simp,bMu,aF9 ws v g (fun u i=>h u (bKx _ i)) (by omega)]
  simp
end Go.Proofs.YtmjoaipkaddkbaaGreatDoor
