/- Part of a proof. -/
import Derived.Test.YtmjoaipkaddkbaaGreatDoorP06
import Derived.Laws.OwnMore
import Derived.Deep.Draws
import Derived.RangeFuncBox
import Derived.RangeFuncLeaves
import Derived.RangeFuncNested
import Derived.Shelf.Abstract
import Derived.OwnWalkIn
import Derived.TacticsInMore
import Derived.LoopNIn
import Derived.LoopIn
import Derived.Outline
import Derived.Lib.Hide
import Derived.RangeFuncBound
import Derived.RangeFuncCalls
import Derived.Sort.LoopGhostIn
import Derived.Stop.RegionWithIn
import Derived.Lib.Split
import Derived.Lib.IndexMore
import Derived.Lib.CountLaws
noncomputable section
open Nat renaming reduceBEq → zB, reduceEqDiff → zC, reduceAdd → zD, reduceMul → zE, reduceSub → zF, reduceLT → zG, reduceLeDiff → zH
open Array renaming getElem?_eq_none→bLc,getElem?_eq_some_iff→bKi,replicate_succ→bL2,replicate_zero→bL3
open Bool renaming and_eq_true→bIN,and_false→bLq,and_self→bJv,and_true→bK6,not_false→bLd,not_true→bKz,true_and→bJI
open Int renaming toNat_natCast→bKe
open List renaming all_cons→bJN,all_eq_true→bJt,all_nil→bKr,append_assoc→bKp,append_toArray→bL5,cons_append→bJG,drop_eq_getElem_cons→bKH,drop_left→bLY,getElem?_drop→bKd,getElem?_take_of_lt→bLX,getElem_mem→bL8,getElem_range→bMc,length→bKn,length_append→bJ3,length_cons→bIV,length_drop→bJj,length_map→bJB,length_nil→bJm,length_range→bLF,length_take→bIW,map_append→bKh,map_cons→bJu,mem_cons→bJ4,mem_cons_of_mem→bJY,mem_cons_self→bJS,mem_map→bJF,mem_of_getElem?→bM9,mem_of_mem_take→bKO,nil_append→bJO,push_toArray→bL4,range→bJh,reverse_cons→bLJ,reverse_reverse→bMv,size_toArray→bKm,take_length→bJy,take_succ_eq_append_getElem→bKA
open Nat renaming ble_eq_true_of_le→bK0,eq_of_beq_eq_true→bJ0,eq_zero_or_pos→bKF,le_of_ble_eq_true→bIU,le_refl→bIK,le_trans→bIO,lt_irrefl→bJq,lt_of_lt_of_le→bIP,lt_succ_self→bIZ,lt_trans→bJR,min_eq_left→bJc,mul_le_mul_left→bJ7,mul_le_mul_right→bJ8,mul_one→bJn,mul_pos→bJH,not_lt_zero→bJQ,pow_le_pow_right→bJ9,pow_zero→bKg,reduceAdd→bL0,reduceSub→bL1,sub_self→bJV,zero_le→bIR
open Option renaming bind_eq_some_iff→bIL,bind_some→bIS,map_eq_some_iff→bIM
open Go renaming Addr→bQh,FuncId→bQf,Program→bQe,Value→bQa,World→bQ9
set_option maxRecDepth 10000000
open Go
open Go.Proofs.Tryz
namespace Go.Proofs.YtmjoaipkaddkbaaGreatDoor.Ev
section
variable {m:Nat}
theorem bD0{l:List Rat}:decide (((l.length:Nat):Int)=0)=decide (l=[]):=by
 refine decide_eq_decide.2 ?_
 rw[Int.natCast_eq_zero,List.length_eq_zero_iff]
theorem bCs{n:Nat}(h:0<n):(((n:Nat):Int):Rat)≠0:=fun e=>by
 have:((n:Int):Rat)=((0:Int):Rat):=e
 have:=Rat.intCast_inj.1 this
 omega
theorem aZ1{p q:TV}:((gS [p] 0 (List.replicate 2 [TV.nil]).flatten).bind fun cs=>(gS [q] 1 cs).bind fun cs=>some cs)=some [p,q]:=rfl
theorem bCP:bQ PG 127 f127 [2,32] []=true:=by kernel_rfl
theorem bGi{a:List Rat}{k:Nat}(h:gJ k a):VX (m+14) 127 [tP a]=some (tC (iS a),false):=by
 have h2:=h.two
 have S:=h.len
 have ta:=fK a
 have T:(k+11)*3<=210000:=bIO (bJ7 _ (show 3<=3^((tr a).length-1)from bJ9 (n:=3) (show 0<3 by decide) (show 1<=(tr a).length-1 by omega))) h.h1
 have f1:=aI4 (m:=m+8) (l:=a) (h.wd.ps (by omega) (by omega))
 rw[vG (show 0<(tr a).length by omega)]at f1
 have f2:=bBS (m:=m) h.wd (by omega) h2 h.gcd (bIO h.h1 (by decide))
 rw[h.sqf]at f2
 obtain⟨D,G,H,r⟩:=h.der
 have f3:=aJN (m:=m+3) (l:=bK a) (D.ps (by omega) (by omega))
 have I:decide ((tr a).length-1<1)=false:=decide_eq_false (by omega)
 refine jP rfl func127 bCP rfl ?_
 simp only[f127,N1,bD,bJ,bM,bL,bH,zB,zG]
 simp (disch:=first|rfl|omega)only[S1,aC,aE,aM,aJ,aD,zB,zE,zH,aY,iV,vJ 90 rfl,f1 _,I,vJ 207 rfl,f2 _,vJ 91 rfl,f3 _,aZ1]
 have i:∀x,1<=x->(k+11)*3^((tr a).length-x)-1<=210000:=fun x h1=>by
  have:=bJ7 (k+11) (bJ9 (show 0<3 by decide) (show(tr a).length-x<=(tr a).length-1 by omega))
  have:=h.h1
  omega
 have d0:dU (bK a)≠ []:=fun e=>by
  have hc:=aDm (bK a) ((tr a).length-2)
  rw[e,show(tr a).length-2+1=(bK a).length-1 by omega]at hc
  exact(fun h=>(Rat.mul_eq_zero.1 h).elim ((NF.pmonic a) (fun e=>by rw[e]at r;simp at r;omega)) (bCs (by omega))) hc.symm
 refine .loop (fun n e s=>∃c p q f v,e 3=some (tP p)/\e 4=some (tP q)/\e 5=some v/\fL iU eA s v (c++[q])/\c++pZ (f+1) p q=iS a/\q≠ []/\q.length<=f/\NF p/\NF q/\q.length<p.length/\p.length<=(tr a).length/\WD ((k+11)*3^((tr a).length-p.length)-1) p/\WD ((k+11)*3^((tr a).length-p.length)-1) q/\n=q.length) (dU (bK a)).length ?_ (dC (by omega)) ?_
 ·refine⟨[bK a],bK a,dU (bK a),(dU (bK a)).length,.ow 0 0 2 1, ?_, ?_, ?_,⟨.inr ⟨0,rfl,Nat.one_pos,rfl⟩,bIR _,fun j J=>absurd J (bJQ _),fun _ _ _ _ _=>bIR _⟩, ?_,d0,bIK _,.pmonic a,.pder _,H,by omega, ?_, ?_,rfl⟩
  ·simp (disch:=first|rfl|omega)only[S1,zB]
  ·simp (disch:=first|rfl|omega)only[S1,zB]
  ·simp (disch:=first|rfl|omega)only[S1,zB]
  ·rw[h.chain];rfl
  ·rw[r,bJV,bKg,bJn];exact D
  ·rw[r,bJV,bKg,bJn];exact G
 ·rintro n e s ⟨c,p,q,f,v,t,u,w,E,y,o,hf,np,nq,A,K,wp,wq,rfl⟩
  have L:c.length<=(tr a).length:=by have:=congrArg bKn y;have:=h.all.2;rw[bJ3]at*;omega
  have M:0<q.length:=List.length_pos_iff.2 o
  obtain⟨f,rfl⟩:∃g,f=g+1:=⟨f-1,by omega⟩
  obtain⟨F,N,U⟩:=aBG wp wq np nq o A K (show 1<=k+11 by omega)
  obtain⟨O,P⟩:=aBf (a:=p) (b:=q) (by rw[nq.eq];exact o)
  rw[nq.eq]at O
  have V:=i p.length (by omega)
  have W:=i q.length (by omega)
  have Q:=h.h1
  have c1:=aYw (m:=m+1) (a:=p) (b:=q) wp wq (by omega) (by omega) (by rw[nq.eq];exact o) (by rw[np.eq,nq.eq];omega) (by rw[np.eq,nq.eq];omega) (by omega)
  have hn:pZ (f+1+1) p q=q::pZ (f+1) q (eI (fG p q) ((-1:Int):Rat)):=by rw[pZ,if_neg o]
  simp (disch:=first|rfl|omega)only[S1,aN,aC,aE,aM,aJ,zB,aY,t,u,vJ 208 rfl,c1 _,bD0]
  refine cJ (fun d=> ?_) (fun d=> ?_)
  ·have d:=of_decide_eq_true d
   have R:c++[q]=iS a:=by rw[←y,hn,d];rfl
   have B:=E.bld.ret (show(c++[q]).length*3+1<=cK by rw[bJ3];show(c.length+1)*3+1<=100000000;omega)
   simp (disch:=first|rfl|omega)only[S1,zB,reduceCtorEq,w]
   rw[B,R];rfl
  ·have d:=of_decide_eq_false d
   have c2:=aBc (m:=m+8) (z:= -1) (by decide) (by decide)
   have c3:=bAs (m:=m+3) (l:=fG p q) (F.ps (by omega) (by omega)) FR.neg1
   obtain⟨v',s',ea,C⟩:=E.stepC (eI (fG p q) ((-1:Int):Rat)) (by rw[bJ3];show c.length+1<=_;omega)
   have ls:=aHw (fG p q) ((-1:Int):Rat)
   simp (disch:=first|rfl|omega)only[S1,aK,aC,aE,aM,aJ,aD,zB,zE,zH,aY,iV,t,u,w,ea,vJ 43 rfl,c2 _,vJ 209 rfl,c3 _]
   have rn:eI (fG p q) ((-1:Int):Rat)≠ []:=fun e=>by
    have hc:=rJ (fG p q) ((-1:Int):Rat) ((fG p q).length-1)
    rw[e]at hc
    exact(fun h=>(Rat.mul_eq_zero.1 h).elim (P d) (by decide)) hc.symm
   refine⟨_, ?_,c++[q],q,eI (fG p q) ((-1:Int):Rat),f,v',rfl,rfl,rfl,C, ?_,rn, ?_,nq,.tr _, ?_,by omega,N,F.neg1,rfl⟩
   ·omega
   ·rw[←y,hn,bKp];rfl
   ·omega
   ·omega
theorem bGp{a:List Rat}{k:Nat}(h:gJ k a):CC (VX (m+14)) 127 [tP a] (tC (iS a)):= .of (iG a) (iZ a) (bGi h)
end
section
variable {m:Nat}
theorem fV0:lF PG 88 0=some (0,78):=by kernel_rfl
theorem fV1:lF PG 88 1=some (4,78):=by kernel_rfl
theorem pV0:qJ PG 88 0=some (0,4):=by kernel_rfl
theorem pV1:qJ PG 88 1=some (4,4):=by kernel_rfl
theorem zV:pE PG 88=some [.b false,.nil,.b false,.nil,.b false,.nil,.b false,.nil]:=by kernel_rfl
theorem bV:aA1 PG 88=true:=by kernel_rfl
theorem kV:dE PG 88=true:=by kernel_rfl
theorem aV:jY PG 88=true:=by kernel_rfl
theorem sV:aU PG 88=8:=by kernel_rfl
def tV(a b:Rat):TV:= .ag (cR a++cR b)
theorem aOe{a b:Rat}:(tV a b).cells=[.b (decide (a.num<0)),tW (aO a.num.natAbs),.b (decide ((a.den:Int)<0)),tW (aO (a.den:Int).natAbs),.b (decide (b.num<0)),tW (aO b.num.natAbs),.b (decide ((b.den:Int)<0)),tW (aO (b.den:Int).natAbs)]:=rfl
theorem aQ5{a b:Rat}:TV.ag [.b (decide (a.num<0)),tW (aO a.num.natAbs),.b (decide ((a.den:Int)<0)),tW (aO (a.den:Int).natAbs),.b (decide (b.num<0)),tW (aO b.num.natAbs),.b (decide ((b.den:Int)<0)),tW (aO (b.den:Int).natAbs)]=tV a b:=rfl
theorem bFr(a b:Rat):cP (tV a b):=cP.ag (Can.app (aG7 a) (aG7 b))
theorem bGD(a b:Rat):dA (tV a b)=18:=by simp only[tV,cR,bJG,bJO,dA,bW,fJ]
theorem aRR{s:VS}{a b:Rat}:dM s [tV a b]=some (tV a b,false):=sO (bFr a b) (by rw[bGD];decide)
theorem TQV:type_of%(And.intro @fV0 (And.intro @fV1 (And.intro @pV0 (And.intro @pV1 (And.intro @zV (And.intro @bV (And.intro @kV (And.intro @aV (And.intro @sV (And.intro @aOe (And.intro @aQ5 (@aRR)))))))))))):=(And.intro @fV0 (And.intro @fV1 (And.intro @pV0 (And.intro @pV1 (And.intro @zV (And.intro @bV (And.intro @kV (And.intro @aV (And.intro @sV (And.intro @aOe (And.intro @aQ5 (@aRR))))))))))))
theorem bAv:bQ PG 128 f128 [2] []=true:=by kernel_rfl
theorem bEk{a:List Rat}{k:Nat}(h:gJ k a):VX (m+13) 128 [tP a]=some (tV (-iQ a) (iQ a),false):=by
 have G:=h.k9
 have c1:=bDP (m:=m) h.wd h.len (by omega)
 have fb:FR 30000 (iQ a):=qH (aEp h.wd) (by omega)
 have c2:=aJL (m:=m+8) (q:=iQ a) (fb.mono (by decide))
 refine bY rfl func128 bAv rfl ?_
 simp only[f128,N1,bD,bJ,bM,bL,bH,zB,zG]
 simp (disch:=first|rfl|omega)only[S1,aD,zB,reduceCtorEq,zD,zG,zH,aY,TQV,vJ 210 rfl,c1 _,c2 _]
theorem bDM{a:List Rat}{k:Nat}(h:gJ k a):CC (VX (m+13)) 128 [tP a] (tV (-iQ a) (iQ a)):= .of (iG a) (iZ a) (bEk h)
theorem bDw(z:Int):Rat.divInt z ((1:Nat):Int)=(z:Rat):=by
 rw[Rat.divInt_ofNat]
 exact Rat.mkRat_self (z:Rat)
theorem aXm:bQ PG 89 f89 [2] []=true:=by kernel_rfl
theorem aZT{l:List (Bool×List Nat)}(h:l.length<=1000)(g:∀x∈l,bC x.2)(c:∀x∈l,aX 150000 (val x.2))(i:∀x∈l,dW x=true):VX (m+10) 89 [eB l]=some (tP (dK (l.map bZ)),false):=by
 have c1:=aCD (m:=m+6) (z:=((1:Nat):Int)) (by decide) (by decide)
 refine jP rfl func89 aXm rfl ?_
 simp only[f89,N1,bD,bJ,bM,bL,bH,zB,zG]
 simp (disch:=first|rfl|omega)only[S1,aN,aC,aE,aM,aJ,zB,TF]
 refine .up (fun j e s=>∃v,e 3=some v/\e 8=some (eB l)/\e 9=some (.int .i64 (l.length:Nat))/\e 10=some (.int .i64 (j:Nat))/\fL bP eA s v (dK ((l.take j).map bZ))) l.length ?_ (dC (by omega)) ?_
 ·refine⟨.nil, ?_, ?_, ?_, ?_,.nil _⟩<;>simp (disch:=first|rfl|omega)only[S1,zB]
 ·rintro j e s d ⟨v,u,y,A,f,n⟩
  have o:(dK ((l.take j).map bZ)).length=j:=by rw[xH,bJB,bIW];omega
  by_cases hc:j<l.length
  ·have h1:decide (j<l.length)=true:=decide_eq_true hc
   obtain⟨x,hx⟩:∃x,x=l.getD j (false,[]):=⟨_,rfl⟩
   have p:x∈l:=by rw[hx];exact tN hc
   have B:=rM (g x p) (i x p)
   have C:(tX x).cells=(tI (bZ x)).cells:=congrArg TV.cells B
   have c2:=bEs (m:=m) (z:=bZ x) (w:=((1:Nat):Int)) (by rw[oY];exact c x p) (aX.one (by decide)) (by decide)
   rw[bDw]at c2
   have r:fL bP eA ((((s.new [.b false,.nil]).set s.nxt ⟨0,[.b (decide (bZ x<0)),tW (aO (bZ x).natAbs)]⟩).new [.b false,.nil,.b false,.nil]).set (s.nxt+1) ⟨0,cR ((bZ x:Int):Rat)⟩) v (dK ((l.take j).map bZ)):=⟨n.bld.keep (by show s.nxt<=s.nxt+1+1;omega) (fun j d=>by
    have D:(j==s.nxt)=false:=by rw[beq_eq_false_iff_ne];omega
    have E:(j==s.nxt+1)=false:=by rw[beq_eq_false_iff_ne];omega
    rw[lG,iP,qI,sN,lG,iP,D,E];rfl),bIR _,fun j d=>absurd d (bJQ j),fun _ _ _ _ _=>bIR _⟩
   obtain⟨v',s',ea,t⟩:=r.stepR ((bZ x:Int):Rat) (by omega)
   simp only[cR,qI,sN]at ea
   simp (disch:=first|rfl|omega)only[S1,aK,aC,aE,aM,aJ,aD,zB,reduceCtorEq,zD,zE,zH,aY,TI,u,y,A,f,h1,nV,pB,←hx,B,c1 _,c2 _,ea]
   refine⟨hc,v',rfl, ?_⟩
   have et:l.take (j+1)=l.take j++[x]:=by rw[bKA hc,hx];simp [hc]
   rw[et,bKh]
   unfold dK
   rw[bKh]
   exact⟨t.bld,bIR _,fun j d=>absurd d (bJQ j),fun _ _ _ _ _=>bIR _⟩
  ·have h1:decide (j<l.length)=false:=decide_eq_false hc
   obtain rfl:j=l.length:=by omega
   rw[bJy]at n o
   have F:=n.bld.ret (show(dK (l.map bZ)).length*9+1<=cK by have:cK=100000000:=rfl;omega)
   simp (disch:=first|rfl|omega)only[S1,zB,reduceCtorEq,u,A,f,h1]
   rw[F];rfl
theorem aZi{l:List (Bool×List Nat)}(h:l.length<=1000)(g:∀x∈l,bC x.2)(c:∀x∈l,aX 150000 (val x.2))(i:∀x∈l,dW x=true):CC (VX (m+10)) 89 [eB l] (tP (dK (l.map bZ))):= .of (aSd l) (aRI l) (aZT h g c i)
end
end Go.Proofs.YtmjoaipkaddkbaaGreatDoor.Ev
namespace Go.Proofs.YtmjoaipkaddkbaaGreatDoor
section
open Go Go.RowKit
def Ret(w:bQ9)(R:bQa->bQ9->Prop)(e:Ending)(w':bQ9):Prop:=∃v,e= .returned v/\R v w'/\Below w.heap.size w w'
abbrev bE(w w':bQ9):Prop:=Below w.heap.size w w'
theorem bE.refl(w:bQ9):bE w w:=Below.refl _ _
theorem bE.trans{a b c:bQ9}(h:bE a b)(k:bE b c):bE a c:=Below.trans h (k.mono h.size)
theorem bE.drew(w:bQ9):bE w w.drew:=(Below.refl _ _).drew
theorem bE.drewN(w:bQ9)(n:Nat):bE w (w.drewN n):=⟨rfl,rfl,rfl,bIK _,fun _ _=>rfl⟩
theorem bE.alloc(w:bQ9)(o:Obj):bE w (w.alloc o):=(Below.refl _ _).alloc (bIK _) o
theorem bE.pdrew{w a:bQ9}(h:bE w a):bE w a.drew:=h.trans (bE.drew a)
theorem bE.pdrewN{w a:bQ9}(h:bE w a)(n:Nat):bE w (a.drewN n):=h.trans (bE.drewN a n)
theorem bE.palloc{w a:bQ9}(h:bE w a)(o:Obj):bE w (a.alloc o):=h.trans (bE.alloc a o)
theorem bE.pset{w a:bQ9}(h:bE w a){p:bQh}(r:w.heap.size<=p.block)(u:bQa):bE w (a.setCell p u):=Below.setCell h r u
theorem bE.cell{w w':bQ9}(h:bE w w'){p:bQh}(r:p.block<w.heap.size):w'.cell? p=w.cell? p:=Below.cell h r
theorem Below.heap_new(w:bQ9)(o:Obj):(w.alloc o).heap[w.heap.size]? =some o:=by
 show(w.heap.push o)[w.heap.size]? =_
 simp
def mO(_:bQ9)(cs:List bQa)(x:Nat):Prop:=cs=[.int .u32 (x:Int)]/\x<4294967296
def jS(w:bQ9)(v:bQa)(xs:List Nat):Prop:=
 ∃(A:Option bQh) (c:Nat),v= .slice A xs.length c/\xs.length<=c/\xs.length<=35184372088832/\bC xs/\
  (0<xs.length->∃b off:Nat,A=some ⟨b,off,none⟩/\b<w.heap.size/\∀k,k<xs.length->w.cell? ⟨b,off+k,none⟩=some (.int .u32 ((xs.getD k 0:Nat):Int)))
theorem jS.ext{w w':bQ9}{v:bQa}{xs:List Nat}(h:jS w v xs)(hx:bE w w'):jS w' v xs:=by
 obtain⟨A,c,f,l,m,i,hc⟩:=h
 refine⟨A,c,f,l,m,i,fun s=> ?_⟩
 obtain⟨b,off,D,q,C⟩:=hc s
 exact⟨b,off,D,bIP q hx.size,fun k y=>(hx.cell (p:=⟨b,off+k,none⟩) q).trans (C k y)⟩
theorem jS.limb{w:bQ9}{v:bQa}{xs:List Nat}(h:jS w v xs):bC xs:=by
 obtain⟨_,_,_,_,_,i,_⟩:=h;exact i
theorem jS.nil(w:bQ9):jS w (.slice none 0 0) []:=⟨none,0,rfl,bIK _,by simp,bC.nil,fun h=>by simp at h⟩
def gR(xs:List Nat):List bQa:=xs.map fun(x:Nat)=>Value.int .u32 (x:Int)
section
variable {w w':bQ9}{g:Nat}{xs:List Nat}
end
def aAB(w:bQ9)(g:Nat):Prop:=∀j n,w.cell? ⟨g,j,none⟩≠some (.int .u32 n)
theorem aAB.ext{w w':bQ9}{g:Nat}(E:aAB w g)(z:g<w.heap.size)(hx:bE w w'):aAB w' g:=fun j n=>by
 rw[hx.cell (p:=⟨g,j,none⟩) z];exact E j n
theorem aAB.new(w:bQ9)(cs:Array bQa)(t:TypeId)(h:∀u∈cs,∀n,u≠ .int .u32 n):aAB (w.alloc (.cells cs t)) w.heap.size:=by
 intro j n e
 have h1:(w.alloc (.cells cs t)).heap[w.heap.size]? =some (.cells cs t):=Below.heap_new w _
 simp only[World.cell?,h1,Option.isSome_none,Bool.false_eq_true,if_false]at e
 exact h _ (Array.mem_of_getElem? e) n rfl
theorem jS.at_{w:bQ9}{A:Option bQh}{n c:Nat}{xs:List Nat}(h:jS w (.slice A n c) xs){k:Nat}(C:k<n):
  ∃b off,A=some ⟨b,off,none⟩/\b<w.heap.size/\n=xs.length/\∀j,j<n->w.cell? ⟨b,off+j,none⟩=some (.int .u32 ((xs.getD j 0:Nat):Int)):=by
 obtain⟨A',c',f,l,m,i,hc⟩:=h
 obtain⟨rfl,rfl,rfl⟩:A=A'/\n=xs.length/\c=c':=by injection f with h1 h2 B;exact⟨h1,h2,B⟩
 obtain⟨b,off,rfl,q,d⟩:=hc (by omega)
 exact⟨b,off,rfl,q,rfl,d⟩
theorem jS.len{w:bQ9}{A:Option bQh}{n c:Nat}{xs:List Nat}(h:jS w (.slice A n c) xs):n=xs.length/\n<=c/\n<=35184372088832:=by
 obtain⟨A',c',f,l,m,i,hc⟩:=h
 obtain⟨rfl,rfl,rfl⟩:A=A'/\n=xs.length/\c=c':=by injection f with h1 h2 B;exact⟨h1,h2,B⟩
 exact⟨rfl,l,m⟩
end
end Go.Proofs.YtmjoaipkaddkbaaGreatDoor
namespace Go.Proofs.YtmjoaipkaddkbaaGreatDoor.Ev
section
open Go Go.RowKit Go.Shelf
attribute [local go_sem] Oper.semAt_some
theorem bAx(F:Fence)(n:Nat)(h5:F.fn 276)(hro:F.round=none)(a:Option bQh)(len cap:Nat)(w:bQ9):
  CallsIn F n prog 276 #[.slice a len cap] w fun e w'=>e= .returned (.func (.func 301) #[] #[.pointer (some ⟨w.heap.size,0,none⟩)])/\w'=w.alloc (.cells #[.slice a len cap] 35):=by
 refine callsIn_of_wp func276 rfl h5 ?_ hro
 simp only[ntmps276,bKm,bIV,bJm,bL0,bL1,bL2,bL3,bL4,bL5,bJO,bJG]
 gi_wp2
 go_ret
 exact⟨rfl,rfl⟩
def aCq(w:bQ9)(b o:Nat)(u:Nat->bQa):Prop:=w.cell? ⟨b,o,none⟩=some (u 0)/\w.cell? ⟨b,o+1,none⟩=some (u 1)/\w.cell? ⟨b,o+2,none⟩=some (u 2)/\w.cell? ⟨b,o+3,none⟩=some (u 3)
def aGK(u:Nat->bQa):bQa:= .agg #[u 0,u 1,u 2,u 3]
def zN(n₀ Bs:Nat)(A B:bQ9):Prop:=Below n₀ A B/\∀v,A.cell? ⟨Bs,0,none⟩=some v->B.cell? ⟨Bs,0,none⟩=some v
set_option maxRecDepth 100000 in
set_option maxHeartbeats 2000000 in
theorem bGU(F:Fence)(n:Nat)(hf:F.fn 301)(hro:F.round=none)(hn:1<=n)(l Bs n₀:Nat)(A:Option bQh)(c N:Nat)(us:Nat->Nat->bQa)(hlen:N<=35184372088832)(J Jx:List Nat->bQ9->Prop)
  (hY:∀pre k W,J pre W->pre.length<N->k+pre.length+1=N->YieldAt F (n-1) prog l #[.int .i64 (k:Int),aGK (us k)] W fun e W'=>
   (e= .returned (.bool true)/\J (pre++[k]) W'/\zN n₀ Bs W W')\/(e= .returned (.bool false)/\Jx (pre++[k]) W'))
  (W:bQ9) (hBs:W.cell? ⟨Bs,0,none⟩=some (.slice A N c)) (hc:0<N->∃b off:Nat,A=some ⟨b,off,none⟩/\b<n₀/\∀j,j<N->aCq W b (off+j*4) (us j)) (h0:J [] W):
  CallsIn F n prog 301 #[.func (.yield l) #[] #[],.pointer (some ⟨Bs,0,none⟩)] W fun e W'=>(∃v,e= .returned v)/\
   ((∃ys:List Nat,ys=(bJh N).reverse/\J ys W')\/(∃pre,True/\Jx pre W')):=by
 refine callsIn_of_wp func301 rfl hf ?_ hro
 simp only[ntmps301,bKm,bIV,bJm,bL0,bL1,bL2,bL3,bL4,bL5,bJO,bJG]
 have HC:=Lib.hid hc
 clear hc
 gi_wp2
 gi_loopw [3] (fun i wr=>∃j:Nat,j<=N/\i= .int .i64 ((j:Int)-1)/\∃pre,Hid (pre=((bJh N).drop j).reverse)/\J pre wr/\Hid (zN n₀ Bs W wr))
  (fun i _=>(intOf i+1).toNat)
 case atStart=>exact⟨N,bIK _,rfl,[],by simp [Hid],h0,⟨Below.refl _ _,fun _ h=>h⟩⟩
 case round=>
  obtain⟨j,hj,rfl,pre,HP,hJs,HK⟩:=hrel
  have hbx:=HK.out.2 _ hBs
  by_cases hlt:0<j
  ·obtain⟨k,rfl⟩:∃k,j=k+1:=⟨j-1,by omega⟩
   obtain⟨b,off,rfl,hb,hcell⟩:=HC.out (by omega)
   obtain⟨c0,c1,c2,c3⟩:=hcell k (by omega)
   have k0:wr.cell? ⟨b,off+k*4,none⟩=some (us k 0):=(HK.out.1.cell (p:=⟨b,off+k*4,none⟩) hb).trans c0
   have k1:wr.cell? ⟨b,off+k*4+1,none⟩=some (us k 1):=(HK.out.1.cell (p:=⟨b,off+k*4+1,none⟩) hb).trans c1
   have k2:wr.cell? ⟨b,off+k*4+2,none⟩=some (us k 2):=(HK.out.1.cell (p:=⟨b,off+k*4+2,none⟩) hb).trans c2
   have k3:wr.cell? ⟨b,off+k*4+3,none⟩=some (us k 3):=(HK.out.1.cell (p:=⟨b,off+k*4+3,none⟩) hb).trans c3
   clear c0 c1 c2 c3
   have hpl:pre.length+(k+1)=N:=by
    have:=congrArg bKn HP.out
    simp at this;omega
   obtain⟨fn,tmps,assign,body,hy,hR⟩:=hY _ k wr hJs (by omega) (by omega)
   dsimp only[aGK]at hy
   have HD:Hid ((pre++[k])=((bJh N).drop k).reverse):=by
    show _=_
    rw[bKH (show k<(bJh N).length by rw[bLF];omega),bLJ,bMc]
    exact congrArg (· ++[k]) HP.out
   clear hcell HC
   have hik:(((k+1:Nat):Int))-1=(k:Int):=by omega
   rw[hik]at*
   generalize us k 0=u0 at*
   generalize us k 1=u1 at*
   generalize us k 2=u2 at*
   generalize us k 3=u3 at*
   gi_wp2
   refine hR.mono ?_
   rintro e W3 (⟨rfl,hJ3,hk3⟩|⟨rfl,hJx3⟩)
   ·gi_wp2
    go_roundw
    case rel=>exact⟨k,by omega,rfl,_,HD,hJ3,⟨HK.out.1.trans hk3.1,fun v hv=>hk3.2 v (HK.out.2 v hv)⟩⟩
    case measure=>simp [intOf]
   ·gi_wp2
    refine bodyPost_ret (results_none rfl _ _ _) rfl ?_
    exact⟨⟨_,rfl⟩,.inr ⟨_,trivial,hJx3⟩⟩
  ·obtain rfl:j=0:=by omega
   gi_wp2
   go_end0
   exact⟨⟨_,rfl⟩,.inl ⟨pre,by have:=HP.out;simpa using this,hJs⟩⟩
theorem bHS{n₀ Bs:Nat}{A B C:bQ9}(h:zN n₀ Bs A B)(k:zN n₀ Bs B C):zN n₀ Bs A C:=⟨h.1.trans k.1,fun v hv=>k.2 v (h.2 v hv)⟩
theorem aNz{n₀:Nat}{W:bQ9}{l:Nat}(o:Obj)(h:n₀<=l):Below n₀ W (W.putObj l o):=⟨rfl,rfl,rfl,by simp,fun k hk=>World.putObj_heap_other (by omega)⟩
theorem bHg{n₀ Bs:Nat}{w:bQ9}(h1:n₀<=w.heap.size)(h2:Bs<w.heap.size)(W:bQ9)(l:Nat)(o o':Obj)(a:w.heap.size<=l)(_:W.heap[l]? =some o)(_:o.isCells=false)(_:o.isWalk=false):zN n₀ Bs W (W.putObj l o'):=by
 have h:=aNz (W:=W) (n₀:=w.heap.size) o' a
 exact⟨h.mono h1,fun v hv=>(h.cell (p:=⟨Bs,0,none⟩) h2).trans hv⟩
theorem aWS(F:Fence)(n:Nat)(hf:F.fn 301)(hro:F.round=none)(hn:1<=n)(Bs n₀:Nat)(A:Option bQh)(c N:Nat)(us:Nat->Nat->bQa)(w:bQ9)(hBs:Bs<w.heap.size)(hn₀:n₀<=w.heap.size)
  (hc:w.cell? ⟨Bs,0,none⟩=some (.slice A N c)) (hlen:N<=35184372088832) (hI:0<N->∃b off:Nat,A=some ⟨b,off,none⟩/\b<n₀/\∀j,j<N->aCq w b (off+j*4) (us j)):
  SeqStopsK F n prog 301 #[.pointer (some ⟨Bs,0,none⟩)] (fun x:Fin N=> #[Value.int .i64 (x.1:Int),aGK (us x.1)]) (zN n₀ Bs) (fun ys=>ys.map (·.1)=(bJh N).reverse) (fun _=>True) N w:=fun l J Jx W hW _ _ hY h0=>by
 have hc':=(hW.cell (p:=⟨Bs,0,none⟩) hBs).trans hc
 refine(bGU F n hf hro hn l Bs n₀ A c N us hlen (fun pre W=>∃pf:List (Fin N),pf.map (·.1)=pre/\J pf W) (fun pre W=>∃pf:List (Fin N),pf.map (·.1)=pre/\Jx pf W) ?_ W hc' (fun h=> ?_) ⟨[],rfl,h0⟩).mono ?_
 ·rintro pre k W1 ⟨pf,rfl,hJ⟩ hl hk
  rw[bJB]at hl hk
  have h:=hY pf ⟨k,by omega⟩ W1 hJ hl
  refine h.mono ?_
  rintro e W' (⟨rfl,h1,h2⟩|⟨rfl,h1⟩)
  ·exact .inl ⟨rfl,⟨_,by rw[bKh];rfl,h1⟩,h2⟩
  ·exact .inr ⟨rfl,⟨_,by rw[bKh];rfl,h1⟩⟩
 ·obtain⟨b,off,e,hb,hcell⟩:=hI h
  have hcl:∀ {o:Nat},W.cell? ⟨b,o,none⟩=w.cell? ⟨b,o,none⟩:=fun {o}=>hW.cell (p:=⟨b,o,none⟩) (bIP hb hn₀)
  exact⟨b,off,e,hb,fun j hj=>by
   obtain⟨c0,c1,c2,c3⟩:=hcell j hj
   exact⟨hcl.trans c0,hcl.trans c1,hcl.trans c2,hcl.trans c3⟩⟩
 ·rintro e W' ⟨hv,⟨ys,rfl,pf,hp,hJ⟩|⟨pre, -,pf,hp,hJ⟩⟩
  ·exact⟨hv,.inl ⟨pf,hp,hJ⟩⟩
  ·exact⟨hv,.inr ⟨pf,trivial,hJ⟩⟩
end
section
open Go Go.RowKit Go.Shelf
attribute [local go_sem] Oper.semAt_some
structure RV where
 b:Bool
 a:Option bQh
 n:Nat
 c:Nat
 b':Bool
 a':Option bQh
 n':Nat
 c':Nat
def RV.u(r:RV):Nat->bQa
 |0=> .bool r.b
 |1=> .slice r.a r.n r.c
 |2=> .bool r.b'
 |_=> .slice r.a' r.n' r.c'
abbrev RV.v(r:RV):bQa:= .agg #[.bool r.b,.slice r.a r.n r.c,.bool r.b',.slice r.a' r.n' r.c']
theorem aTb{w:bQ9}{v:bQa}{xs:List Nat}(h:WT w v (tW xs)):∃a n c,v= .slice a n c:=by
 unfold tW tL at h
 split at h<;>cases h<;>exact⟨_,_,_,rfl⟩
theorem aCf{w:bQ9}{v:bQa}{q:Rat}(h:WT w v (tR q)):∃r:RV,v=r.v:=by
 unfold tR cR at h
 cases h with
 |ag h=>
  cases h with |cons h0 h=>
  cases h with |cons h1 h=>
  cases h with |cons h2 h=>
  cases h with |cons h3 h=>
  cases h
  cases h0
  cases h2
  obtain⟨a,n,c,rfl⟩:=aTb h1
  obtain⟨a',n',c',rfl⟩:=aTb h3
  exact⟨⟨_,a,n,c,_,a',n',c'⟩,rfl⟩
def dO:Obj:= .deferred (some [])
mutual
theorem WT.sub{w w':bQ9}(hx:∀(p:Nat) cs el fz,w.heap[p]? =some (.cells cs el fz)->w'.heap[p]? =some (.cells cs el fz)){v:bQa}{t:TV}(h:WT w v t):WT w' v t:=by
 cases h with
 |b x=>exact .b x
 |int k z=>exact .int k z
 |str x=>exact .str x
 |lit h=>exact .lit h
 |err t v=>exact .err t v
 |u=>exact .u
 |nil=>exact .nil
 |imn=>exact .imn _
 |im0=>exact .im0 _ _ _
 |im hp hl hs hc=>exact .im (hx _ _ _ _ hp) hl hs (cW.sub hx hc)
 |e0 hp hs=>exact .e0 (hx _ _ _ _ hp) hs
 |fn ha hb=>exact .fn (cW.sub hx ha) (cW.sub hx hb)
 |ag h=>exact .ag (cW.sub hx h)
 |tp h=>exact .tp (cW.sub hx h)
 |emn=>exact .emn
 |ems=>exact .ems _ _
theorem cW.sub{w w':bQ9}(hx:∀(p:Nat) cs el fz,w.heap[p]? =some (.cells cs el fz)->w'.heap[p]? =some (.cells cs el fz)){v:List bQa}{t:List TV}(h:cW w v t):cW w' v t:=by
 cases h with
 |nil=>exact .nil
 |cons h hl=>exact .cons (WT.sub hx h) (cW.sub hx hl)
end
theorem WT.back{w:bQ9}{b:Nat}{v:bQa}{t:TV}(h:WT (w.putObj b dO) v t):WT w v t:=by
 refine h.sub fun p cs el fz e=> ?_
 by_cases hp:p=b
 ·subst hp
  by_cases hb:p<w.heap.size
  ·rw[show(w.putObj p dO).heap[p]? =some dO by simp [World.putObj,hb]]at e;cases e
  ·rw[bLc (by simpa [World.putObj]using hb)]at e;cases e
 ·rwa [World.putObj_heap_other hp]at e
def gH(W:bQ9)(b:Nat)(r:RV):Prop:=W.heap[b]? =some (.cells #[.bool r.b,.slice r.a r.n r.c,.bool r.b',.slice r.a' r.n' r.c'] 78)
theorem gH.cells{W:bQ9}{b:Nat}{r:RV}(h:gH W b r):W.cell? ⟨b,0,none⟩=some (.bool r.b)/\W.cell? ⟨b,1,none⟩=some (.slice r.a r.n r.c)/\W.cell? ⟨b,2,none⟩=some (.bool r.b')/\W.cell? ⟨b,3,none⟩=some (.slice r.a' r.n' r.c'):=by
 unfold gH at h
 refine⟨?_, ?_, ?_, ?_⟩<;>simp [World.cell?,h]
theorem gH.frozen{W:bQ9}{b:Nat}{r:RV}(h:gH W b r)(j:Nat):W.frozen? ⟨b,j,none⟩=false:=by
 unfold gH at h
 simp [World.frozen?,h]
theorem gH.new(W:bQ9)(r:RV):gH (W.alloc (.cells #[.bool r.b,.slice r.a r.n r.c,.bool r.b',.slice r.a' r.n' r.c'] 78)) W.heap.size r:=World.alloc_heap_new _ _
theorem gH.lt{W:bQ9}{b:Nat}{r:RV}(h:gH W b r):b<W.heap.size:=(bKi.1 h).1
theorem gH.below{W W':bQ9}{b B:Nat}{r:RV}(h:gH W b r)(k:Below B W W')(hb:b<B):gH W' b r:=by
 unfold gH at h ⊢
 rw[k.block b hb];exact h
theorem aNA{W W':bQ9}:∀ {xs:List Nat} {vs:List bQa},cW W vs (xs.map wc)->cW W' vs (xs.map wc)
 | [],vs,h=>by cases h;exact .nil
 |x::xs,vs,h=>by
  rw[bJu]at h ⊢
  cases h with |cons h0 h=>
  cases h0
  exact .cons (.int _ _) (aNA h)
theorem aRr{W:bQ9}{b:Nat}{r:RV}{xs:List Nat}{v:bQa}(hb:gH W b r)(h:WT W v (tW xs)):WT (W.putObj b dO) v (tW xs):=by
 cases xs with
 |nil=>
  change WT W v .em at h
  change WT _ v .em
  cases h
  ·exact .emn
  ·exact .ems _ _
 | cons x xs=>
  change WT W v (.im 1 ((x::xs).map wc))at h
  change WT _ v (.im 1 ((x::xs).map wc))
  cases h with
  | im hp hl hs hc=>
   rename_i p off len c cs el fr
   refine .im (p:=p) (cs:=cs) (el:=el) (fr:=fr) ?_ hl hs (aNA hc)
   have hne:p≠b:=by
    rintro rfl
    unfold gH at hb
    rw[hb]at hp
    injection hp with hp
    injection hp with h1 h2 h3
    subst h1
    rw[bJu]at hc
    generalize he:(List.drop off _).take (len*1)=vs at hc
    cases hc with |cons h0 hc=>
    cases h0
    have hm:=List.mem_of_mem_drop (bKO (show _∈_ from he ▸ bJS))
    simp at hm
   rw[World.putObj_heap_other hne];exact hp
theorem aTT{w w':bQ9}{v:bQa}{y:Bool}(h:WT w v (.b y)):WT w' v (.b y):=by cases h;exact .b _
def gU(b:Nat)(W:bQ9)(r:RV)(q:Rat):Prop:=WT (W.putObj b dO) r.v (tR q)
theorem gU.mk{W:bQ9}{b:Nat}{r r':RV}{q:Rat}(hb:gH W b r')(h:WT W r.v (tR q)):gU b W r q:=by
 unfold gU
 unfold tR cR at h ⊢
 cases h with
 |ag h=>
  cases h with |cons h0 h=>
  cases h with |cons h1 h=>
  cases h with |cons h2 h=>
  cases h with |cons h3 h=>
  cases h
  refine .ag (.cons ?_ (.cons (aRr hb h1) (.cons ?_ (.cons (aRr hb h3) .nil))))
  ·exact aTT h0
  ·exact aTT h2
theorem gU.step{W W':bQ9}{b:Nat}{r:RV}{q:Rat}(hx:∀(p:Nat) cs el fz,p≠b->W.heap[p]? =some (.cells cs el fz)->W'.heap[p]? =some (.cells cs el fz))(h:gU b W r q):gU b W' r q:=by
 refine WT.sub (fun p cs el fz e=> ?_) h
 by_cases hp:p=b
 ·subst hp
  by_cases hb:p<W.heap.size
  ·rw[show(W.putObj p dO).heap[p]? =some dO by simp [World.putObj,hb]]at e;cases e
  ·rw[bLc (by simpa [World.putObj]using hb)]at e;cases e
 ·rw[World.putObj_heap_other hp]at e ⊢
  exact hx p cs el fz hp e
theorem gU.wt{W:bQ9}{b:Nat}{r:RV}{q:Rat}(h:gU b W r q):WT W r.v (tR q):=WT.back h
def qU(W:bQ9)(b:Nat)(r:RV):bQ9:=(((W.setCell ⟨b,0,none⟩ (.bool r.b)).setCell ⟨b,1,none⟩ (.slice r.a r.n r.c)).setCell ⟨b,2,none⟩ (.bool r.b')).setCell ⟨b,3,none⟩ (.slice r.a' r.n' r.c')
theorem aCJ{W:bQ9}{b:Nat}{r:RV}{p:Nat}(hp:p≠b):(qU W b r).heap[p]? =W.heap[p]? :=by
 unfold qU
 rw[Below.heap_setCell _ _ _ _ hp,Below.heap_setCell _ _ _ _ hp,Below.heap_setCell _ _ _ _ hp,Below.heap_setCell _ _ _ _ hp]
theorem aFk{W:bQ9}{b j:Nat}{cs:Array bQa}{T:TypeId}{v:bQa}(h:W.heap[b]? =some (.cells cs T)):(W.setCell ⟨b,j,none⟩ v).heap[b]? =some (.cells (cs.setIfInBounds j v) T):=by
 obtain⟨hb,he⟩:=bKi.1 h
 simp [World.setCell,hb,Array.getElem_modify,he]
theorem aOJ{W:bQ9}{b:Nat}{r r':RV}(h:gH W b r'):gH (qU W b r) b r:=by
 have h1:=aFk (j:=0) (v:= .bool r.b) h
 have h2:=aFk (j:=1) (v:= .slice r.a r.n r.c) h1
 have h3:=aFk (j:=2) (v:= .bool r.b') h2
 exact aFk (j:=3) (v:= .slice r.a' r.n' r.c') h3
theorem aJS{w:bQ9}:∀ {vs:List bQa} {ts:List TV},cW w vs ts->vs.length=ts.length/\∀(i:Nat) t,ts[i]? =some t->∃v,vs[i]? =some v/\WT w v t
 | [],_,h=>by cases h;exact⟨rfl,fun i t e=>by simp at e⟩
 |v::vs,_,h=>by
  cases h with |cons h0 h=>
  obtain⟨h1,h2⟩:=aJS h
  refine⟨by simp [h1],fun i t e=> ?_⟩
  cases i with
  |zero=>simp at e;subst e;exact⟨v,rfl,h0⟩
  |succ i=>simp at e;exact h2 i t e
theorem bDi{w:bQ9}{A:Option bQh}{c:Nat}{l:List Rat}(h:WT w (.slice A l.length c) (tP l)):∃rs:Nat->RV,(0<l.length->∃b off:Nat,A=some ⟨b,off,none⟩/\b<w.heap.size/\∀j,j<l.length->aCq w b (off+j*4) (rs j).u)/\∀j,j<l.length->WT w (rs j).v (tR (co l j)):=by
 cases l with
 |nil=>exact⟨fun _=>⟨false,none,0,0,false,none,0,0⟩,fun h=>absurd h (bJq 0),fun j h=>absurd h (bJQ j)⟩
 | cons q l=>
  generalize hL:q::l=L at*
  have hne:bP.row L≠ []:=by rw[←hL,EC.row_cons];intro e;cases e
  have hh:WT w (.slice A L.length c) (.im 4 (bP.row L)):=by
   have e:tP L= .im 4 (bP.row L):=by
    show tL 4 (bP.row L)=_
    unfold tL
    split
    ·exact absurd ‹_› hne
    ·next he=>rw[he]
   rw[e]at h;exact h
  generalize hR:bP.row L=R at hh
  generalize hN:L.length=N at hh
  cases hh with
  |imn=>exact absurd hR hne
  |im0=>exact absurd hR hne
  | im hp hl hs hc=>
   rename_i p off cs el fr
   subst hR
   subst hN
   obtain⟨_,hat⟩:=aJS hc
   have key:∀j,j<L.length->∃r:RV,aCq w p (off+j*4) r.u/\WT w r.v (tR (co L j)):=fun j hj=>by
    have hg:∀i,i<4->(bP.row L)[j*4+i]? =(cR (co L j))[i]? :=fun i hi=>EC.get (E:=bP) (l:=L) (j:=j) (o:=i) hj hi
    have hv:∀i,i<4->∀t,(cR (co L j))[i]? =some t->∃v,w.cell? ⟨p,off+j*4+i,none⟩=some v/\WT w v t:=fun i hi t ht=>by
     obtain⟨v,h1,h2⟩:=hat (j*4+i) t ((hg i hi).trans ht)
     refine⟨v, ?_,h2⟩
     rw[bLX (by have:=bJ8 4 (show j+1<=L.length from hj);omega),bKd]at h1
     simp only[World.cell?,hp]
     rw[show off+j*4+i=off+(j*4+i) by omega]
     simpa using h1
    obtain⟨v0,a0,b0⟩:=hv 0 (by decide) _ rfl
    obtain⟨v1,a1,b1⟩:=hv 1 (by decide) _ rfl
    obtain⟨v2,a2,b2⟩:=hv 2 (by decide) _ rfl
    obtain⟨v3,a3,b3⟩:=hv 3 (by decide) _ rfl
    have hW:WT w (.agg #[v0,v1,v2,v3]) (tR (co L j)):= .ag (.cons b0 (.cons b1 (.cons b2 (.cons b3 .nil))))
    obtain⟨r,hr⟩:=aCf hW
    injection hr with hr
    simp at hr
    obtain⟨rfl,rfl,rfl,rfl⟩:=hr
    exact⟨r,⟨a0,a1,a2,a3⟩,hW⟩
   have hr:∃rs:Nat->RV,∀j,j<L.length->aCq w p (off+j*4) (rs j).u/\WT w (rs j).v (tR (co L j)):=
    ⟨fun j=>if h:j<L.length then(key j h).choose else⟨false,none,0,0,false,none,0,0⟩,fun j h=>by simp only[dif_pos h];exact(key j h).choose_spec⟩
   obtain⟨rs,hrs⟩:=hr
   exact⟨rs,fun _=>⟨p,off,rfl,(bKi.1 hp).1,fun j hj=>(hrs j hj).1⟩,fun j hj=>(hrs j hj).2⟩
theorem aQ7{W:bQ9}{v:bQa}{t:TV}(h:WT W v t):WT W.drew v t:=WT.ext (w:=W) (w':=W.drew) (fun _ _=>rfl) h
theorem aZ3{r:RV}:aGK r.u=r.v:=rfl
def pR(l:List Rat)(pre:List (Fin l.length)):List Rat:=(pre.map fun k=>co l k.1).reverse
theorem aYa{l:List Rat}{pre:List (Fin l.length)}{k:Fin l.length}:pR l (pre++[k])=co l k.1::pR l pre:=by
 unfold pR
 rw[bKh,List.reverse_append];rfl
theorem aZ8{l:List Rat}{ys:List (Fin l.length)}(h:ys.map (·.1)=(bJh l.length).reverse):pR l ys=l:=by
 have h1:ys.map (fun k=>co l k.1)=(ys.map (·.1)).map (co l):=by rw[List.map_map];rfl
 unfold pR
 rw[h1,h,List.map_reverse,bMv]
 refine List.ext_getElem (by simp) fun i h1 h2=> ?_
 rw[List.getElem_map,bMc,vV h2]
theorem bCN{l:List Rat}(pre:List (Fin l.length)):∀c∈pR l pre,c∈l:=fun c hc=>by
 unfold pR at hc
 rw[List.mem_reverse,bJF]at hc
 obtain⟨k,_,rfl⟩:=hc
 rw[vV k.2]
 exact bL8 _
theorem bBm{l:List Rat}{pre:List (Fin l.length)}:(pR l pre).length=pre.length:=by unfold pR;simp
theorem aXa{W:bQ9}{b:Nat}{r:RV}:(qU W b r).heap.size=W.heap.size:=by unfold qU;simp [World.setCell]
theorem aHy{W:bQ9}{b B:Nat}{r:RV}(h:B<=b):Below B W (qU W b r):=((((Below.refl B W).setCell (p:=⟨b,0,none⟩) h _).setCell (p:=⟨b,1,none⟩) h _).setCell (p:=⟨b,2,none⟩) h _).setCell (p:=⟨b,3,none⟩) h _
theorem aVU{W W2:bQ9}{b:Nat}{r r2:RV}(hB:Below W.heap.size W W2)(hb:gH W b r):KeepsOthers W (qU W2 b r2):=⟨by rw[aXa];exact hB.size,fun k o hk ho=>by
 have hlt:=(bKi.1 hk).1
 have hne:k≠b:=by
  rintro rfl
  rw[show W.heap[k]? =_ from hb]at hk
  cases hk;cases ho
 rw[aCJ hne,hB.block k hlt];exact hk⟩
theorem bE0{W W2:bQ9}{b:Nat}{r2:RV}(hB:Below W.heap.size W W2)(hb:b+1<W.heap.size):zN b (b+1) W (qU W2 b r2):=⟨(hB.mono (by omega)).trans (aHy (bIK _)),fun v hv=>by
 have h1:(qU W2 b r2).cell? ⟨b+1,0,none⟩=W2.cell? ⟨b+1,0,none⟩:=World.cell?_of_block (aCJ (by show b+1≠b;omega))
 rw[h1]
 exact(hB.cell (p:=⟨b+1,0,none⟩) hb).trans hv⟩
structure EvC(l:List Rat)(x:Rat):Prop where
 zero:∀w,fX w->Calls PG 43 #[.int .i64 0] w fun e w'=>∃v,e= .returned v/\Below w.heap.size w w'/\WT w' v (tR 0)
 mul:∀p:List Rat,(∀c∈p,c∈l)->p.length<l.length->∀w v v',fX w->WT w v (tR (eP x p))->WT w v' (tR x)->Calls PG 142 #[v,v'] w fun e w'=>∃v,e= .returned v/\Below w.heap.size w w'/\WT w' v (tR (eP x p*x))
 add:∀(p:List Rat) (c:Rat),(∀c∈p,c∈l)->c∈l->p.length<l.length->∀w v v',fX w->WT w v (tR (eP x p*x))->WT w v' (tR c)->Calls PG 200 #[v,v'] w fun e w'=>∃v,e= .returned v/\Below w.heap.size w w'/\WT w' v (tR (eP x p*x+c))
set_option maxRecDepth 100000 in
set_option maxHeartbeats 4000000 in
theorem bEh{l:List Rat}{x:Rat}{A:Option bQh}{c:Nat}{rx:RV}{w:bQ9}(htw:fX w)(H:EvC l x)(hlen:l.length<=1000)
  (hl:WT w (.slice A l.length c) (tP l)) (hx:WT w rx.v (tR x)):
  Calls PG 213 #[.slice A l.length c,rx.v] w fun e w'=>∃v,e= .returned v/\Below w.heap.size w w'/\WT w' v (tR (eP x l)):=by
 have H:=Lib.hid H
 obtain⟨rs,hR1,hR2⟩:=bDi hl
 have HR1:=Lib.hid hR1
 have HR2:=Lib.hid hR2
 clear hR1 hR2 hl
 refine(callsIn_wide (n:=5)).1 ?_
 refine callsIn_of_wp_marks func213 rfl trivial ?_ rfl
 simp only[ntmps213,RV.v,bKm,bIV,bJm,bL0,bL1,bL2,bL3,bL4,bL5,bJO,bJG]
 gi_wp2_with fail
 refine⟨trivial,callsIn_wide.2 ((H.out.zero _ (htw.below (((Below.refl _ w).alloc (bIK _) _).alloc (by simp) _))).mono ?_)⟩
 rintro e w1 ⟨v0,rfl,hb1,hv1⟩
 obtain⟨r0,rfl⟩:=aCf hv1
 gi_wp2_with fail
 refine⟨trivial,(bAx Fence.wide 4 trivial rfl _ _ _ _).mono ?_⟩
 rintro e w' ⟨rfl,rfl⟩
 gi_wp2_with fail
 have hs1:w.heap.size+2<=w1.heap.size:=by have:=hb1.size;simpa using this
 have hB1:Below w.heap.size w w1:=(((Below.refl _ w).alloc (bIK _) _).alloc (by simp) _).trans (hb1.mono (by simp;omega))
 have x1:gH w1 w.heap.size rx:=(((gH.new w rx).below ((Below.refl _ _).alloc (bIK _) (.cells #[.bool false,.slice none 0 0,.bool false,.slice none 0 0] 78)) (by simp))).below hb1 (by simp;omega)
 have z1:gH w1 (w.heap.size+1) ⟨false,none,0,0,false,none,0,0⟩:=by
  have h:=gH.new (w.alloc (.cells #[.bool rx.b,.slice rx.a rx.n rx.c,.bool rx.b',.slice rx.a' rx.n' rx.c'] 78)) ⟨false,none,0,0,false,none,0,0⟩
  have h2:=h.below hb1 (by simp)
  rwa [World.size_alloc]at h2
 have e1:Below w1.heap.size w1 ((w1.alloc (.cells #[.bool r0.b,.slice r0.a r0.n r0.c,.bool r0.b',.slice r0.a' r0.n' r0.c'] 78)).alloc (.cells #[.slice A l.length c] 35)):=((Below.refl _ _).alloc (bIK _) _).alloc (by simp) _
 have y3:gH ((w1.alloc (.cells #[.bool r0.b,.slice r0.a r0.n r0.c,.bool r0.b',.slice r0.a' r0.n' r0.c'] 78)).alloc (.cells #[.slice A l.length c] 35)) w1.heap.size r0:=(gH.new w1 r0).below ((Below.refl _ _).alloc (bIK _) _) (by simp)
 have s3:((w1.alloc (.cells #[.bool r0.b,.slice r0.a r0.n r0.c,.bool r0.b',.slice r0.a' r0.n' r0.c'] 78)).alloc (.cells #[.slice A l.length c] 35)).cell? ⟨w1.heap.size+1,0,none⟩=some (.slice A l.length c):=by
  have h:=(Boxed.new (w1.alloc (.cells #[.bool r0.b,.slice r0.a r0.n r0.c,.bool r0.b',.slice r0.a' r0.n' r0.c'] 78)) 35 (.slice A l.length c)).cell
  rwa [World.size_alloc]at h
 have n3:((w1.alloc (.cells #[.bool r0.b,.slice r0.a r0.n r0.c,.bool r0.b',.slice r0.a' r0.n' r0.c'] 78)).alloc (.cells #[.slice A l.length c] 35)).heap.size=w1.heap.size+2:=by simp
 have v3:WT ((w1.alloc (.cells #[.bool r0.b,.slice r0.a r0.n r0.c,.bool r0.b',.slice r0.a' r0.n' r0.c'] 78)).alloc (.cells #[.slice A l.length c] 35)) r0.v (tR 0):=hv1.ext e1.block
 have B3:=hB1.trans (e1.mono (by omega))
 have x3:=x1.below e1 x1.lt
 have z3:=z1.below e1 z1.lt
 have o3:=gU.mk y3 v3
 clear x1 z1 e1 hv1 v3 hb1 hB1
 generalize (w1.alloc (.cells #[.bool r0.b,.slice r0.a r0.n r0.c,.bool r0.b',.slice r0.a' r0.n' r0.c'] 78)).alloc (.cells #[.slice A l.length c] 35)=w3 at*
 generalize w1.heap.size=b5 at*
 have hI3:0<l.length->∃b off:Nat,A=some ⟨b,off,none⟩/\b<b5/\∀j,j<l.length->aCq w3 b (off+j*4) (rs j).u:=fun h0=>by
  obtain⟨b,off,e,hb,hf⟩:=HR1.out h0
  have hcl:∀ {o:Nat},w3.cell? ⟨b,o,none⟩=w.cell? ⟨b,o,none⟩:=fun {o}=>B3.cell (p:=⟨b,o,none⟩) hb
  exact⟨b,off,e,by omega,fun j hj=>by
   obtain⟨c0,c1,c2,c3⟩:=hf j hj
   exact⟨hcl.trans c0,hcl.trans c1,hcl.trans c2,hcl.trans c3⟩⟩
 refine wpIn_rangeFunc_ownH rfl (by omega) (gf:=301) (lb:= #[.pointer (some ⟨b5+1,0,none⟩)]) rfl trivial (enters_of func301 (by kernel_rfl) rfl)
  (aWS Fence.wide 4 trivial rfl (by omega) (b5+1) b5 A c l.length (fun j=>(rs j).u) w3 (by omega) (by omega) s3 (by omega) hI3) bHS (bHg (by omega) (by omega)) (Below.refl _ _) (fun _=>rfl)
  (fun pre W=>(∃r:RV,gH W b5 r/\gU b5 W r (eP x (pR l pre)))/\Below b5 w3 W)
  (fun _ _ _=>False)
  (OwnFrom.and (Own.from (fun s W W' row ⟨r,hb,ho⟩ hg hr=>⟨r,(grownBy_keeps_cells hg hr hb rfl).trans hb,ho.step fun p cs el fz _ e=>(grownBy_keeps_cells hg hr e rfl).trans e⟩) _) (ownFrom_below (by omega) (by omega)))
  (fun _ _ _ _ _ hs _ _=>hs)
  ⟨⟨r0,y3,o3⟩,Below.refl _ _⟩
  (fun k a' W=>∃b7,b5+2<=b7/\gH W b7 (rs k.1)/\a'={ tmps:= #[.slice A l.length c,rx.v,undef,.pointer (some ⟨w.heap.size,0,none⟩),.pointer (some ⟨w.heap.size+1,0,none⟩),.pointer (some ⟨b5,0,none⟩),undef,.pointer (some ⟨b7,0,none⟩),r0.v,.slice A l.length c,.func (.func 301) #[] #[.pointer (some ⟨b5+1,0,none⟩)],.int .i64 (k.1:Int),(rs k.1).v,undef,undef,undef,undef,undef,undef],defers:=[] })
  (fun k a' s W W' row ⟨b7,h1,hb,e⟩ hg hr=>⟨b7,h1,(grownBy_keeps_cells hg (fun r e=>(hr r e).2) hb rfl).trans hb,e⟩) ?assign ?body ?done ?stop
 case stop=>
  rintro D c pre W _ _ h _
  exact h.elim
 case assign=>
  rintro lp pre k W K ⟨⟨r,hb,ho⟩,hB⟩ hK
  have hsz:=hB.size
  have hk4:=hK { tmps:= #[.slice A l.length c,rx.v,undef,.pointer (some ⟨w.heap.size,0,none⟩),.pointer (some ⟨w.heap.size+1,0,none⟩),.pointer (some ⟨b5,0,none⟩),undef,.pointer (some ⟨W.heap.size,0,none⟩),r0.v,.slice A l.length c,.func (.func 301) #[] #[.pointer (some ⟨b5+1,0,none⟩)],.int .i64 (k.1:Int),(rs k.1).v,undef,undef,undef,undef,undef,undef],defers:=[] } (W.alloc (.cells #[.bool (rs k.1).b,.slice (rs k.1).a (rs k.1).n (rs k.1).c,.bool (rs k.1).b',.slice (rs k.1).a' (rs k.1).n' (rs k.1).c'] 78)) ((KeepsOthers.alloc W _).from _) ⟨(Below.refl _ _).alloc (by omega) _,fun v hv=>by rw[World.cell?_alloc_past _ _ _ (by omega)];exact hv⟩
   ⟨⟨r,hb.below ((Below.refl _ _).alloc (bIK _) _) hb.lt,ho.step fun p cs el fz _ e=>(Below.heap_alloc _ _ _ (bKi.1 e).1).trans e⟩,hB.alloc (by omega) _⟩ ⟨W.heap.size,by omega,gH.new W (rs k.1),rfl⟩
  clear hK
  simp only[aZ3]
  gi_wp2
  exact hk4
 case body=>
  rintro lp pre k a' W hlp _ ⟨⟨r,hb,ho⟩,hB⟩ ⟨b7,h7,hb7,rfl⟩ hpl
  have hp1:=bCN pre
  have hp2:=bBm (pre:=pre)
  have hkl:co l k.1∈l:=by rw[vV k.2];exact bL8 _
  have hxb:=x3.below hB (show w.heap.size<b5 by omega)
  have hxW:WT W rx.v (tR x):=hx.ext (B3.trans (hB.mono (by omega))).block
  have hcW:WT W (rs k.1).v (tR (co l k.1)):=(HR2.out k.1 k.2).ext (B3.trans (hB.mono (by omega))).block
  have hrW:=ho.wt
  have htW:fX W:=htw.below (B3.trans (hB.mono (by omega)))
  have htD:fX W.drew:=htW.below ((Below.refl _ W).drew)
  have HM:=Lib.hid (fun W' v v'=>H.out.mul (pR l pre) hp1 (by omega) W' v v')
  have HA:=Lib.hid (fun W' v v'=>H.out.add (pR l pre) (co l k.1) hp1 hkl (by omega) W' v v')
  obtain⟨u0,u1,u2,u3⟩:=hb.cells
  obtain⟨p0,p1,p2,p3⟩:=hxb.cells
  obtain⟨q0,q1,q2,q3⟩:=hb7.cells
  have f0:=hb.frozen 0
  have f1:=hb.frozen 1
  have f2:=hb.frozen 2
  have f3:=hb.frozen 3
  have hrD:WT W.drew r.v (tR (eP x (pR l pre))):=aQ7 hrW
  have hxD:WT W.drew rx.v (tR x):=aQ7 hxW
  gi_wp2_with fail
  gi_region_with (first
   | (refine⟨trivial,CallsIn.inRound lp (callsIn_wide.2 ((HM.out _ _ _ htD hrD hxD).mono ?_))⟩;rintro e W1 ⟨v1,rfl,hm1,hv1⟩;obtain⟨r1,rfl⟩:=aCf hv1;have hm2:Below W.heap.size W W1:=(Below.refl W.heap.size W).drew.trans hm1;obtain⟨a0,a1,a2,a3⟩:=(hb7.below hm2 hb7.lt).cells;have hcW1:=WT.ext hm2.block hcW)
   | (refine⟨trivial,CallsIn.inRound lp (callsIn_wide.2 ((HA.out _ _ _ (htW.below hm2) hv1 hcW1).mono ?_))⟩;rintro e W2 ⟨v2,rfl,hm3,hv2⟩;obtain⟨r2,rfl⟩:=aCf hv2;have hm4:Below W.heap.size W W2:=hm2.trans (hm3.mono hm2.size);obtain⟨d0,d1,d2,d3⟩:=(hb.below hm4 hb.lt).cells;have g0:=(hb.below hm4 hb.lt).frozen 0;have g1:=(hb.below hm4 hb.lt).frozen 1;have g2:=(hb.below hm4 hb.lt).frozen 2;have g3:=(hb.below hm4 hb.lt).frozen 3))
  all_goals
   gi_wp2_with fail
   have hsz:=hB.size
   have hszW:=hm4.size
   have hbW:=hb.below hm4 hb.lt
   refine⟨(aVU hm4 hb).from _,bE0 hm4 (by omega),⟨r2,aOJ hbW, ?_⟩,hB.trans ((hm4.mono (by omega)).trans (aHy (bIK _)))⟩
   rw[aYa]
   exact(gU.mk hbW hv2).step fun p cs el fz hp e=>(aCJ hp).trans e
 case done=>
  rintro D ys W hD hys ⟨⟨r,hb,ho⟩,hB⟩ hK
  rw[aZ8 hys]at ho
  have hz:=z3.below hB (show w.heap.size+1<b5 by omega)
  obtain⟨u0,u1,u2,u3⟩:=hb.cells
  obtain⟨p0,p1,p2,p3⟩:=hz.cells
  have f0:=hz.frozen 0
  have f1:=hz.frozen 1
  have f2:=hz.frozen 2
  have f3:=hz.frozen 3
  gi_wp2_with fail
  have hKD:(qU W (w.heap.size+1) r).heap[D]? =some (.deferred (some [])):=(aCJ (by omega)).trans hK
  refine⟨by simp,.inl ⟨_,_,rfl,run_takeDeferred hKD, ?_⟩⟩
  have hg:((qU W (w.heap.size+1) r).putObj D (.deferred none)).heap[w.heap.size+1]? =some (.cells #[.bool r.b,.slice r.a r.n r.c,.bool r.b',.slice r.a' r.n' r.c'] 78):=by
   rw[World.putObj_heap_other (by omega)]
   exact aOJ hz
  have hsz:=hB.size
  refine⟨_,results_cell_row rfl _ _ (w.heap.size+1) 78 _ _ _ rfl hg underlying78 rfl (by kernel_rfl),⟨_,rfl, ?_, ?_⟩⟩
  ·exact B3.trans ((hB.mono (by omega)).trans ((aHy (by omega)).trans (aNz _ (by omega))))
  ·have h1:=((gU.mk hz ho.wt).step (W':=qU W (w.heap.size+1) r) fun p cs el fz hp e=>(aCJ hp).trans e).wt
   refine h1.sub fun p cs el fz e=> ?_
   have hne:p≠D:=by
    rintro rfl
    rw[hKD]at e;cases e
   rw[World.putObj_heap_other hne];exact e
end
section
open Go Go.RowKit Go.Shelf
attribute [local go_sem] Oper.semAt_some
theorem aDM{w:bQ9}{v:bQa}{sz:Nat}(hs:0<sz){ts:List TV}{n:Nat}(hn:ts.length=n*sz)(h:WT w v (.im sz ts)):∃A c,v= .slice A n c/\n<=c/\(0<n->∃b off,A=some ⟨b,off,none⟩/\b<w.heap.size/\∀i t,ts[i]? =some t->∃u,w.cell? ⟨b,off+i,none⟩=some u/\WT w u t):=by
 have h0:ts=[]->n=0:=fun e=>by
  subst e
  rcases bKF n with h|h
  ·exact h
  ·have:=bJH h hs;simp at hn;omega
 cases h with
 |imn=>obtain rfl:=h0 rfl;exact⟨_,_,rfl,bIK _,fun h=>absurd h (bJq 0)⟩
 |im0=>obtain rfl:=h0 rfl;exact⟨_,_,rfl,bIR _,fun h=>absurd h (bJq 0)⟩
 | im hp hl hs' hc=>
  rename_i p off len c cs el fr
  obtain⟨h1,hat⟩:=aJS hc
  rw[hn,bIW,bJj,Array.length_toList]at h1
  have hm:=bJ8 sz hl
  rw[bJc (by omega)]at h1
  obtain rfl:len=n:=Nat.eq_of_mul_eq_mul_right hs h1
  refine⟨_,_,rfl,hl,fun _=>⟨p,off,rfl,(bKi.1 hp).1,fun i t' e=> ?_⟩⟩
  obtain⟨u,g1,g2⟩:=hat i t' e
  refine⟨u, ?_,g2⟩
  have hi:i<len*sz:=by
   have:=(List.getElem?_eq_some_iff.1 e).1
   omega
  rw[bLX hi,bKd]at g1
  simp only[World.cell?,hp]
  simpa using g1
theorem aGe{w:bQ9}{v:bQa}(h:WT w v .em):∃A c,v= .slice A 0 c:=by
 cases h
 ·exact⟨_,_,rfl⟩
 ·exact⟨_,_,rfl⟩
theorem aDG{w:bQ9}{v:bQa}{sz:Nat}(hs:0<sz){ts:List TV}{n:Nat}(hn:ts.length=n*sz)(h:WT w v (tL sz ts)):∃A c,v= .slice A n c/\(0<n->∃b off,A=some ⟨b,off,none⟩/\b<w.heap.size/\∀i t,ts[i]? =some t->∃u,w.cell? ⟨b,off+i,none⟩=some u/\WT w u t):=by
 cases ts with
 | nil=>
  have hn0:n=0:=by
   rcases bKF n with h|h
   ·exact h
   ·have:=bJH h hs;simp at hn;omega
  subst hn0
  obtain⟨A,c,e⟩:=aGe h
  exact⟨A,c,e,fun h=>absurd h (bJq 0)⟩
 |cons t ts=>
  obtain⟨A,c,e, -,hh⟩:=aDM hs hn h
  exact⟨A,c,e,hh⟩
theorem bHc{w:bQ9}{v:bQa}{l:List Rat}(h:WT w v (tP l)):∃A c,v= .slice A l.length c:=by
 obtain⟨A,c,e, -⟩:=aDG (n:=l.length) (sz:=4) (by decide) (ts:=bP.row l) (bP.row_len l) h
 exact⟨A,c,e⟩
theorem aZ9{w:bQ9}{v:bQa}{C:List (List Rat)}(h:WT w v (tC C)):∃A c,v= .slice A C.length c/\(0<C.length->∃b off,A=some ⟨b,off,none⟩/\b<w.heap.size/\∀j,j<C.length->∃A' c',w.cell? ⟨b,off+j,none⟩=some (.slice A' (C.getD j []).length c')/\WT w (.slice A' (C.getD j []).length c') (tP (C.getD j []))):=by
 obtain⟨A,c,e,hh⟩:=aDG (n:=C.length) (sz:=1) (by decide) (ts:=iU.row C) (iU.row_len C) h
 refine⟨A,c,e,fun h0=> ?_⟩
 obtain⟨b,off,ea,hb,hc⟩:=hh h0
 refine⟨b,off,ea,hb,fun j hj=> ?_⟩
 obtain⟨u,g1,g2⟩:=hc j (tP (C.getD j [])) (by
  have:=iU.get (l:=C) (j:=j) (o:=0) hj (by decide)
  rw[show j*iU.sz+0=j from bJn j]at this
  exact this)
 obtain⟨A',c',rfl⟩:=bHc g2
 exact⟨A',c',g1,g2⟩
structure ChC(C:List (List Rat))(x:Rat):Prop where
 ev:∀p∈C,EvC p x
 len:C.length<=1000
 lens:∀p∈C,p.length<=1000
 sgn:∀p∈C,∀w v,fX w->WT w v (tR (eP x p))->Calls PG 139 #[v] w fun e w'=>e= .returned (.int .i64 (fW (eP x p)))/\Below w.heap.size w w'
set_option maxRecDepth 100000 in
set_option maxHeartbeats 4000000 in
theorem bAV{C:List (List Rat)}{x:Rat}{v:bQa}{rx:RV}{w:bQ9}(htw:fX w)(H:ChC C x)(hl:WT w v (tC C))(hx:WT w rx.v (tR x)):
  Calls PG 130 #[v,rx.v] w fun e w'=>e= .returned (.int .i64 (gK C x:Nat))/\Below w.heap.size w w':=by
 obtain⟨A,c,rfl,hat⟩:=aZ9 hl
 have HAT:=Lib.hid hat
 have H:=Lib.hid H
 have hlen:=H.out.len
 clear hat hl
 refine(callsIn_wide (n:=5)).1 ?_
 refine callsIn_of_wp func130 rfl trivial ?_ rfl
 simp only[ntmps130,RV.v,bKm,bIV,bJm,bL0,bL1,bL2,bL3,bL4,bL5,bJO,bJG]
 gi_wp2_with fail
 have hb3:=gH.new w rx
 have hB1:Below w.heap.size w (w.alloc (.cells #[.bool rx.b,.slice rx.a rx.n rx.c,.bool rx.b',.slice rx.a' rx.n' rx.c'] 78)):=(Below.refl _ _).alloc (bIK _) _
 have hs1:(w.alloc (.cells #[.bool rx.b,.slice rx.a rx.n rx.c,.bool rx.b',.slice rx.a' rx.n' rx.c'] 78)).heap.size=w.heap.size+1:=by simp
 generalize w.alloc (.cells #[.bool rx.b,.slice rx.a rx.n rx.c,.bool rx.b',.slice rx.a' rx.n' rx.c'] 78)=w1 at*
 gi_loopw [5,6,12] (fun n la i wr=>∃j:Nat,j<=C.length/\i= .int .i64 (j:Int)/\n= .int .i64 ((jH x (C.take j) (0,0)).1:Nat)/\la= .int .i64 (jH x (C.take j) (0,0)).2/\Hid (Below w1.heap.size w1 wr)) (fun _ _ i _=>C.length-(intOf i).toNat)
 case atStart=>exact⟨0,bIR _,rfl,rfl,rfl,Below.refl _ _⟩
 case round=>
  obtain⟨j,hj,rfl,rfl,rfl,HB⟩:=hrel
  by_cases hlt:j<C.length
  ·obtain⟨b,off,rfl,hb,hcell⟩:=HAT.out (by omega)
   obtain⟨A',c',g1,g2⟩:=hcell j hlt
   have hm:C.getD j []∈C:=by simp [hlt]
   have HT:=Lib.hid (aN8 hlt (0,0) (x:=x))
   have hs:=aJm x (C.take j) (0,0) ⟨by decide,by decide⟩
   have hle:(jH x (C.take j) (0,0)).1<=j:=by
    have h:=aDa x (C.take j) (0,0)
    rw[bIW]at h
    have:(jH x (C.take j) (0,0)).1<=0+min j C.length:=h
    omega
   have hB2:=HB.out
   have hbw:=(hB1.trans (hB2.mono (by omega)))
   have hc1:=(hbw.cell (p:=⟨b,off+j,none⟩) hb).trans g1
   have HP:=Lib.hid (WT.ext hbw.block g2)
   have HX:=Lib.hid (WT.ext hbw.block hx)
   have hbx:=hb3.below hB2 (by omega)
   have hq:=Sm.sg (eP x (C.getD j []))
   have htr:fX wr:=htw.below hbw
   have HE:=Lib.hid fun W (h:Below wr.heap.size wr W)=>bEh (htr.below h) (A:=A') (c:=c') (w:=W) (H.out.ev _ hm) (H.out.lens _ hm) (WT.ext h.block HP.out) (WT.ext h.block HX.out)
   have HS:=Lib.hid (H.out.sgn _ hm)
   obtain⟨p0,p1,p2,p3⟩:=hbx.cells
   clear g1 g2 hcell HAT
   generalize eP x (C.getD j [])=q at*
   generalize (C.getD j []).length=np at*
   generalize fW q=s at*
   generalize jH x (C.take j) (0,0)=st at*
   obtain⟨m,la⟩:=st
   dsimp only at hs hle ⊢
   obtain⟨s1,s2⟩:=hs
   obtain⟨q1,q2⟩:=hq
   gi_wp2_with fail
   refine⟨trivial,callsIn_wide.2 ((HE.out _ (Below.refl _ _)).mono ?_)⟩
   rintro e W2 ⟨v2,rfl,hm1,hv2⟩
   obtain⟨r2,rfl⟩:=aCf hv2
   gi_wp2_with fail
   refine⟨trivial,callsIn_wide.2 ((HS.out _ _ (htr.below hm1) hv2).mono ?_)⟩
   rintro e W3 ⟨rfl,hm2⟩
   have HB3:Hid (Below w1.heap.size w1 W3):=hB2.trans ((hm1.trans (hm2.mono hm1.size)).mono hB2.size)
   clear HE HS HP HX p0 p1 p2 p3 hbx hc1 hv2 hB2 hm1 hm2 HB
   have hm:(m:Int)<10000:=by omega
   rcases(show s= -1\/s=0\/s=1 by omega)with rfl|rfl|rfl<;>rcases(show la= -1\/la=0\/la=1 by omega)with rfl|rfl|rfl<;>(simp at HT;gi_wp2_with fail)
   all_goals
    refine⟨⟨j+1,by omega,rfl, ?_, ?_,HB3⟩, ?_⟩
    ·rw[HT.out]<;>rfl
    ·rw[HT.out]
    ·simp only[intOf];omega
  ·obtain rfl:j=C.length:=by omega
   gi_wp2
   rw[bJy]
   refine bodyPost_ret (results_tmp rfl _ _ _) rfl ?_
   exact⟨rfl,hB1.trans (HB.out.mono (by omega))⟩
end
section
def Lq{α:Type}(a b:Option α):Prop:=∀r,a=some r->b=some r
section
variable {α β:Type}
theorem Lq.refl(a:Option α):Lq a a:=fun _ h=>h
theorem Lq.bind{a b:Option α}{f g:α->Option β}(h:Lq a b)(k:∀x,Lq (f x) (g x)):Lq (a.bind f) (b.bind g):=fun r e=>by
 cases i:a with
 |none=>rw[i]at e;cases e
 |some x=>rw[i]at e;rw[h x i];exact k x r e
theorem Lq.map{a b:Option α}(f:α->β)(h:Lq a b):Lq (a.map f) (b.map f):=fun r e=>by
 cases i:a with
 |none=>rw[i]at e;cases e
 |some x=>rw[i]at e;rw[h x i];exact e
theorem Lq.ite{c:Prop}[Decidable c]{a b a' b':Option α}(h:Lq a b)(k:Lq a' b'):Lq (if c then a else a') (if c then b else b'):=by
 by_cases hc:c
 ·simp only[if_pos hc];exact h
 ·simp only[if_neg hc];exact k
end
section
variable {P:bQe}{cal cal':jM}{orc orc':cN}
def wN(cal cal':jM):Prop:=∀f args s,Lq (cal f args s) (cal' f args s)
def nS(orc orc':cN):Prop:=∀f args,Lq (orc f args) (orc' f args)
theorem aHQ(h:nS orc orc'):wN (dD orc) (dD orc'):=fun f _args _s=> .bind (.refl _) fun _p=> .bind (h f _) fun _=> .refl _
theorem aYD(h:nS orc orc'):wN (vI orc) (vI orc'):=fun f args s=> .ite (aHQ h f args s) (.bind (.refl _) fun _p=> .bind (h f _) fun _=> .refl _)
theorem aI2(h:nS orc orc'):wN (fD orc) (fD orc'):=fun f _args _s=> .bind (.refl _) fun _p=> .bind (h f _) fun _=> .refl _
theorem aAk(h:wN cal cal')(op:Op)(r:bB)(s:VS):Lq (bG P cal op r s) (bG P cal' op r s):=by
 cases op with
 | call c=>
  obtain⟨c,args,w⟩:=c
  cases c with
  |value g=>
   refine .bind (.refl _) fun g=> .bind (.refl _) fun aa=> ?_
   cases g<;>first|exact h _ _ _|exact .refl _
  |_=>exact .refl _
 |makeFunc f a b=>cases f<;>exact .refl _
 |_=>exact .refl _
theorem aIw(h:wN cal cal')(all:Array Oper):∀(l:List Oper) (r:bB) (s:VS),Lq (nL P cal all l r s) (nL P cal' all l r s)
 | [],_,_=> .refl _
 |o::l,r,s=>by
  unfold nL
  refine .bind (.refl _) fun g=> .ite ?_ (aIw h all l _ _)
  exact .bind (aAk h _ _ _) fun p=>aIw h all l _ _
theorem aMP{op:Op}(hq:lK op=true)(r:bB)(s:VS):bG P cal op r s=bG P cal' op r s:=by
 cases op with
 |call c=>
  obtain⟨c,args,w⟩:=c
  cases c with
  |value g=>cases hq
  |_=>rfl
 |makeFunc f a b=>cases f<;>rfl
 |_=>rfl
theorem aMT{o:Oper}(hq:lK o.op=true){b:VO}{x:VR}{r:bB}{s:VS}:sW P orc o b x r s=sW P orc' o b x r s:=by
 unfold sW
 rw[aMP (cal:=dD orc) (cal':=dD orc') hq,aMP (cal:=dD orc) (cal':=dD orc') hq]
theorem aYi(h:nS orc orc')(e:bB)(o:Oper)(p:gM)(b:VO)(r:bB)(s:VS):Lq (iC P orc e o p b r s) (iC P orc' e o p b r s):=by
 have hc:=aHQ h
 unfold iC
 split
 ·by_cases hq:lK o.op=true
  ·simp only[if_pos hq];rw[aMT (orc':=orc') hq];exact .refl _
  ·simp only[if_neg hq];exact .refl _
 ·next a hs=>
  have j:∃t,o.op= .load t a:=by
   generalize o.op=op at hs
   unfold eT at hs
   split at hs<;>first|(cases hs;done)|(cases hs;exact⟨_,rfl⟩)
  obtain⟨t,j⟩:=j
  have A:∀r s,bG P (dD orc) o.op r s=bG P (dD orc') o.op r s:=fun r s=>by rw[j];rfl
  simp only[A]
  exact .refl _
 ·split
  ·refine .ite (.ite (.map _ (aAk hc _ _ _)) (.refl _)) (.bind (.refl _) fun a=> ?_)
   split
   ·exact .bind (.refl _) fun ad=> .ite (.map _ (aAk hc _ _ _)) (.refl _)
   ·exact .refl _
  ·exact .ite (.bind (.refl _) fun ad=> .bind (aAk (aYD h) _ _ _) fun q=> .refl _) (.refl _)
  ·refine .bind (.refl _) fun l=> ?_
   split
   ·exact .ite (.map _ (aAk hc _ _ _)) (.refl _)
   ·exact .ite (.bind (.refl _) fun x=> .ite (.map _ (aAk hc _ _ _)) (.refl _)) (.refl _)
  ·exact .ite (.map _ (aAk hc _ _ _)) (.refl _)
  ·by_cases hq:lK o.op=true
   ·simp only[if_pos hq];exact .bind (.refl _) fun x=>by rw[aMT (orc':=orc') hq];exact .refl _
   ·simp only[if_neg hq];exact .refl _
theorem aIt(h:nS orc orc')(all:Array Oper)(e:bB):∀(l:List (Oper×gM)) (b:VO) (r:bB) (s:VS),Lq (mL P orc all e l b r s) (mL P orc' all e l b r s)
 | [],_,_,_=> .refl _
 |q::l,b,r,s=>by
  unfold mL
  exact .bind (.refl _) fun g=> .ite (.bind (aYi h _ _ _ _ _ _) fun x=>aIt h all e l _ _ _) (aIt h all e l _ _ _)
theorem aW6(h:nS orc orc')(hc:wN cal cal')(U:FI)(n:Array Oper)(d:Bool)(e:bB)(s:VS):Lq (aBL P orc cal U n d e s) (aBL P orc' cal' U n d e s):=by
 unfold aBL
 exact .ite (.ite (.ite (.map _ (aIt h _ _ _ _ _ _)) (.refl _)) (.map _ (aIw hc _ _ _ _))) (.refl _)
theorem aPq{c c':bB->VS->Option (eE×bB×VS)}(h:∀e s,Lq (c e s) (c' e s)):∀(m:Nat) (e:bB) (s:VS),Lq (mM c m e s) (mM c' m e s)
 |0,_,_=> .refl _
 |m+1,e,s=>by
  unfold mM
  refine .bind (h e s) fun p=> ?_
  split
  ·exact aPq h m _ _
  ·exact .refl _
theorem aOY(h:nS orc orc')(hc:wN cal cal')(U:FI):∀(c:Code) (e:bB) (s:VS),Lq (gN P orc cal U c e s) (gN P orc' cal' U c e s):=by
 intro c
 induction c with
 |region id n d=>intro e s;exact .map _ (aW6 h hc _ _ _ _ _)
 |seq a b u v=>
  intro e s
  refine .bind (u e s) fun p=> ?_
  split
  ·exact v _ _
  ·exact .refl _
 |cond x a b u v=>intro e s;exact .bind (.refl _) fun y=> .bind (.refl _) fun t=> .ite (u _ _) (v _ _)
 |block id c ih=>intro e s;exact .map _ (ih e s)
 |loop c ih=>intro e s;exact aPq ih _ _ _
 |_=>intro e s;exact .refl _
theorem bGa(h:nS orc orc')(hc:wN cal cal')(fn:Func)(args:List TV):Lq (vfn P orc cal fn args) (vfn P orc' cal' fn args):=by
 unfold vfn
 refine .bind (.refl _) fun c=> .ite (.bind (aOY h hc _ _ _ _) fun p=> ?_) (.refl _)
 split<;>exact .refl _
theorem aQz(cC:lW)(h:nS orc orc'):∀m,wN (fH P cC orc m) (fH P cC orc' m)
 |0=>aI2 h
 |m+1=>fun f args s=>by
  unfold fH
  refine .ite (.bind (.refl _) fun fn=> .bind (.refl _) fun c=> .ite (.bind (aOY h (aQz cC h m) _ _ _ _) fun p=> ?_) (.refl _)) (aI2 h f args s)
  split<;>exact .refl _
theorem aJ7{cC:lW}{pv pv':cN}(h:nS pv pv')(z:∀f args r,pv f args=none->pv' f args=some r->cC.prim f=true):∀m,nS (gG P cC pv m) (gG P cC pv' m)
 |0=>fun _ _=> .refl _
 | m+1=>fun f args r e=>by
  have ih:=aJ7 h z m
  unfold gG at e ⊢
  cases i:pv f args with
  |some x=>rw[i]at e;rw[h f args x i];exact e
  | none=>
   rw[i]at e
   cases B:pv' f args with
   |some x=>
    have:=z f args x i B
    simp only[this,if_true]at e
    cases e
   |none=>
    simp only at e ⊢
    exact(show Lq _ _ from .ite (.refl _) (.bind (.refl _) fun fn=> .map _ (bGa ih (aQz cC ih lA) fn args))) r e
theorem CC.up{f:bQf}{args:List TV}{R:TV}(h:CC orc f args R)(k:nS orc orc'):CC orc' f args R:=fun s=>⟨aHQ k f args s _ (h s).1,aI2 k f args s _ (h s).2⟩
end
end
section
open Go Go.RowKit
def iL{α β:Type}(f:α->Option β):List α->Option (List β)
 | []=>some []
 |a::l=>match f a,iL f l with |some b,some m=>some (b::m)|_,_=>none
theorem aA4{α β:Type}{f:α->Option β}{a:α}{l:List α}{m:List β}(h:iL f (a::l)=some m):∃b j,m=b::j/\f a=some b/\iL f l=some j:=by
 unfold iL at h
 split at h
 ·next b j h1 h2=>cases h;exact⟨b,j,rfl,h1,h2⟩
 ·cases h
theorem aIN{α β:Type}{f:α->Option β}:∀ {l:List α} {m:List β},iL f l=some m->m.length=l.length
 | [],m,h=>by cases h;rfl
 |a::l,m,h=>by obtain⟨b,j,rfl,_,h2⟩:=aA4 h;simp [aIN h2]
def rT:Nat->St->AV->Option TV
 |0,_,_=>none
 | n+1,st,a=>match a with
  | .b x=>some (.b x)
  | .i k m=>some (.int k (m:Int))
  | .m k m=>some (.int k (Int.negSucc m))
  | .v (.string s)=>some (.str s)
  | .v (.slice none 0 0)=>some .em
  | .se=>some .em
  | .sl id off len _ sz=>match len with
   |0=>some .em
   |len+1=>match Tr.find id st.heap with
    |some b=>if (aB0 st id&& !mP b.cells&&Nat.ble (off+(len+1)*sz) b.cells.length&&Nat.ble 1 sz)=true then(iL (rT n st) ((b.cells.drop off).take ((len+1)*sz))).map (.im sz)else none
    |none=>none
  | .agg cs=>(iL (rT n st) cs).map .ag
  | .tup cs=>(iL (rT n st) cs).map .tp
  |_=>none
theorem zY{f:AV->Option TV}{Γ:aP}{w:bQ9}(hf:∀a t v,f a=some t->CR Γ a v->WT w v t):∀ {l:List AV} {ts:List TV} {vs:List bQa},iL f l=some ts->bU Γ l vs->cW w vs ts
 | [],ts,vs,h,c=>by cases h;cases c;exact .nil
 |a::l,ts,vs,h,c=>by
  obtain⟨b,j,rfl,h1,h2⟩:=aA4 h
  cases c with
  |cons ca cl=>exact .cons (hf _ _ _ h1 ca) (zY hf h2 cl)
theorem aEu{Γ:aP}{w:bQ9}{st:St}(hs:dL st Γ w):∀(n:Nat) (a:AV) (t:TV) (v:bQa),rT n st a=some t->CR Γ a v->WT w v t
 |0,_,_,_,h,_=>by cases h
 | n + 1,a,t,v,h,c=>by
  have ih:=aEu hs n
  unfold rT at h
  split at h
  ·cases h;cases c;exact .b _
  ·cases h;cases c;exact .int _ _
  ·cases h;cases c;exact .int _ _
  ·cases h;cases c;exact .str _
  ·cases h;cases c;exact .emn
  ·cases h;cases c;exact .ems _ _
  ·next id off len cap sz=>
   cases c with
   | sl hΓ J Y hsz=>
    rename_i p s c
    split at h
    ·cases h;exact .ems _ _
    ·next len=>
     split at h
     ·next b B=>
      split at h
      ·next hc=>
       simp only[bIN,Bool.not_eq_true']at hc
       obtain⟨⟨⟨c1,c2⟩,c3⟩,c4⟩:=hc
       rw[bIM]at h
       obtain⟨ts,h1,rfl⟩:=h
       obtain⟨p',s',g1,g2,cs,el,g3,rfl,g5,g6,_⟩:=hs.blkc id b ⟨⟨aBs.1 c1,B⟩,c2⟩
       rw[hΓ]at g1
       cases g1
       have a':=bIU c3
       have Z:=(g6.drop off).take ((len+1)*sz)
       have e:((cs.toList.take b.cells.length).drop off).take ((len+1)*sz)=(cs.toList.drop off).take ((len+1)*sz):=by
        rw[List.drop_take,List.take_take,bJc (by omega)]
       rw[e]at Z
       exact .im g3 J hsz (zY (fun a t v q c=>ih a t v q c) h1 Z)
      ·cases h
     ·cases h
  ·rw[bIM]at h
   obtain⟨ts,h1,rfl⟩:=h
   cases c with |agg cl=>exact .ag (zY (fun a t v q c=>ih a t v q c) h1 cl)
  ·rw[bIM]at h
   obtain⟨ts,h1,rfl⟩:=h
   cases c with |tup cl=>exact .tp (zY (fun a t v q c=>ih a t v q c) h1 cl)
  ·cases h
def gV:Nat->TV->Bool
 |0,_=>false
 |n+1,t=>match t with
  | .b _=>true
  | .int _ _=>true
  | .str _=>true
  | .nil=>true
  | .em=>true
  | .e0 _=>true
  | .im sz cs=>Nat.ble 1 sz&&cs.all (gV n)
  | .ag cs=>cs.all (gV n)
  | .tp cs=>cs.all (gV n)
  |_=>false
theorem aA5{h:Tr}{F:Id->Prop}{f:AV->Option TV}{ok:TV->Bool}(hf:∀a t,TR h eG eJ F a t->ok t=true->f a=some (jN t)):∀ {l:List AV} {ts:List TV},bO h eG eJ F l ts->ts.all ok=true->iL f l=some (cL ts)
 | [],ts,q,_=>by cases q;rfl
 | a::l,ts,q,o=>by
  cases q with
  |cons qa ql=>
   rw[bJN,bIN]at o
   unfold iL
   rw[hf _ _ qa o.1,aA5 hf ql o.2]
   rfl
theorem aEy{st:St}{F:Id->Prop}(A:∀id,F id->st.vis id):∀(n:Nat) (a:AV) (t:TV),TR st.heap eG eJ F a t->gV n t=true->rT n st a=some (jN t)
 |0,_,_,_,h=>by cases h
 | n +1,a,t,q,h=>by
  have ih:=aEy A n
  cases q with
  |b x=>rfl
  |i k m=>rfl
  |m k m=>rfl
  |str x=>rfl
  |lit x=>cases h
  |err=>cases h
  |u=>cases h
  |nil=>rfl
  |imv sz=>
   simp only[gV,bIN]at h
   show some TV.em=some (if ([]:List TV).length=0/\0<sz then TV.em else _)
   rw[if_pos ⟨rfl,bIU h.1⟩]
  |imse sz=>
   simp only[gV,bIN]at h
   show some TV.em=some (if ([]:List TV).length=0/\0<sz then TV.em else _)
   rw[if_pos ⟨rfl,bIU h.1⟩]
  | im L hf M C=>
   rename_i id off len cap sz blk cs
   simp only[gV,bIN]at h
   have hz:=bIU h.1
   have D:=C.length
   rw[bIW,bJj]at D
   cases len with
   |zero=>
    show some TV.em=some (if cs.length=0/\0<sz then TV.em else _)
    rw[if_pos ⟨by omega,hz⟩]
   | succ len=>
    have h0:0<(len+1)*sz:=bJH (by omega) hz
    show(match Tr.find id st.heap with
     |some b=>if (aB0 st id&& !mP b.cells&&Nat.ble (off+(len+1)*sz) b.cells.length&&Nat.ble 1 sz)=true then(iL (rT n st) ((b.cells.drop off).take ((len+1)*sz))).map (.im sz)else none
     |none=>none)=some (if cs.length=0/\0<sz then TV.em else .im sz (cL cs))
    rw[hf.hf]
    simp only
    rw[if_pos (by rw[aBs.2 (A _ L),hf.nm,bK0 M,h.1];rfl),aA5 ih C h.2,if_neg (by omega)]
    rfl
  |e0 L hf M=>rfl
  |ow o=>exact o.elim
  |po o=>exact o.elim
  |pi=>cases h
  |fn=>cases h
  |ag hc=>
   show(iL (rT n st) _).map TV.ag=some (.ag (cL _))
   rw[aA5 ih hc h];rfl
  |tp hc=>
   show(iL (rT n st) _).map TV.tp=some (.tp (cL _))
   rw[aA5 ih hc h];rfl
  |emv=>rfl
  |emse=>rfl
  |ems L hf M=>rfl
def lR:TV->Option AV
 | .b x=>some (.b x)
 | .int k (.ofNat n)=>some (.i k n)
 | .int k (.negSucc n)=>some (.m k n)
 | .str x=>some (.v (.string x))
 | .lit .nilIface=>some (.v .nilIface)
 | .err=>some (.fn (.yield 2) [] [])
 |_=>none
def wL:TV->Option AV
 | .tp l=>(iL lR l).map .tup
 |t=>lR t
theorem aLJ{Γ:aP}{w:bQ9}{t:TV}{a:AV}{v:bQa}(h:lR t=some a)(q:WT w v t):CR Γ a v:=by
 unfold lR at h
 split at h<;>cases h<;>cases q
 ·exact .b _
 ·exact .i _ _
 ·exact .m _ _
 ·exact .v ⟨fun _ e=>(by cases e),fun _ e=>(by cases e)⟩
 ·next E=>exact .v E
 ·exact .anyE _ _
theorem aHH{Γ:aP}{w:bQ9}:∀ {ts:List TV} {aS:List AV} {vs:List bQa},iL lR ts=some aS->cW w vs ts->bU Γ aS vs
 | [],aS,vs,h,q=>by cases h;cases q;exact .nil
 |t::ts,aS,vs,h,q=>by
  obtain⟨b,j,rfl,h1,h2⟩:=aA4 h
  cases q with |cons qa ql=>exact .cons (aLJ h1 qa) (aHH h2 ql)
theorem aN2{Γ:aP}{w:bQ9}{t:TV}{a:AV}{v:bQa}(h:wL t=some a)(q:WT w v t):CR Γ a v:=by
 unfold wL at h
 split at h
 ·rw[bIM]at h
  obtain⟨aS,h1,rfl⟩:=h
  cases q with |tp ql=>exact .tup (aHH h1 ql)
 ·exact aLJ h q
theorem aMS{h:Tr}{F:Id->Prop}{t:TV}{a:AV}(e:lR t=some a):TR h eG eJ F a t:=by
 unfold lR at e
 split at e<;>cases e
 ·exact .b _
 ·exact .i _ _
 ·exact .m _ _
 ·exact .str _
 ·exact .lit _ ⟨fun _ e=>(by cases e),fun _ e=>(by cases e)⟩
 ·exact .err
theorem aHP{h:Tr}{F:Id->Prop}:∀ {ts:List TV} {aS:List AV},iL lR ts=some aS->bO h eG eJ F aS ts
 | [],aS,e=>by cases e;exact .nil
 |t::ts,aS,e=>by
  obtain⟨b,j,rfl,h1,h2⟩:=aA4 e
  exact .cons (aMS h1) (aHP h2)
theorem aOi{h:Tr}{F:Id->Prop}{t:TV}{a:AV}(e:wL t=some a):TR h eG eJ F a t:=by
 unfold wL at e
 split at e
 ·rw[bIM]at e
  obtain⟨aS,h1,rfl⟩:=e
  exact .tp (aHP h1)
 ·exact aMS e
theorem aHu{t:TV}{a:AV}(e:lR t=some a):cI t=true:=by
 unfold lR at e
 split at e<;>first|rfl|cases e
theorem aM5{t:TV}{a:AV}(e:wL t=some a):cI t=true:=by
 unfold wL at e
 split at e
 ·rw[bIM]at e
  obtain⟨aS,h1,rfl⟩:=e
  have:∀ {ts:List TV} {aS:List AV},iL lR ts=some aS->dR ts=true:=by
   intro ts
   induction ts with
   |nil=>intro _ _;rfl
   |cons t ts ih=>
    intro aS e
    obtain⟨b,j,rfl,h1,h2⟩:=aA4 e
    simp only[dR,aHu h1,ih h2,bJv]
  exact this h1
 ·exact aHu e
def nR:Nat:=12
def mJ(g:List TV->Option TV):List AV->St->KS->OR:=fun args st k=>match iL (rT nR st) args with
 |some ts=>match (g ts).bind wL with
  |some a=>k a st
  |none=>none
 |none=>none
def aAz(P:bQe)(f:bQf)(g:List TV->Option TV):Prop:=∀(w:bQ9) (vs:List bQa) (ts:List TV) (R:TV),cW w vs ts->g ts=some R->Calls P f vs.toArray w fun e w'=>∃v,e= .returned v/\Below w.heap.size w w'/\WT w' v R
theorem aNM{P:bQe}{f:bQf}{g:List TV->Option TV}(h:aAz P f g):aAD P f (mJ g):=fun {args st k r Γ w vs} q hs hc=>by
 unfold mJ at q
 split at q
 ·next ts y=>
  split at q
  ·next a G=>
   rw[bIL]at G
   obtain⟨R,h1,h2⟩:=G
   have N:=zY (w:=w) (fun a t v e c=>aEu hs nR a t v e c) y hc
   intro K O
   refine Calls.mono (h w vs ts R N h1) ?_
   rintro e w' ⟨v,rfl,B,A⟩
   exact O _ _ _ w' Γ q (dF.ext hs B) (aN2 h2 A)
  ·cases q
 ·cases q
def nW(g:List TV->Option TV)(vs:List TV):Option (TV×Bool):=if vs.all (gV nR)=true then(g (cL vs)).bind fun R=>(wL R).map fun _=>(R,false)else none
theorem aM3{P:bQe}{pr:cM}{f:bQf}{g:List TV->Option TV}(E:pr f=some (mJ g)){vs:List TV}{R:TV}{own:Bool}(h:nW g vs=some (R,own)):jT P pr f vs R own:=by
 unfold nW at h
 split at h
 ·next z=>
  simp only[bIL,bIM]at h
  obtain⟨R',h1,a,h2,Q⟩:=h
  cases Q
  intro st aS F S T U d V H _
  refine⟨a,st,F,⟨aOi h2,aM5 h2,fun _ h=>h,fun _ h=> .inl h,fun _ _=>rfl,rfl,rfl,bIK _,fun h=>by cases h⟩,0,fun n _ k=> ?_⟩
  have W:=aA5 (aEy (st:=st) (F:=F) d nR) T z
  show(Option.rec (motive:=fun _=>IH->List AV->St->KS->OR) (wS P (P.funcs[f]?)) (fun p _=>p) (pr f)) _ aS st k=_
  rw[E]
  show mJ g aS st k=_
  unfold mJ
  rw[W]
  simp only[h1,h2,bIS]
 ·cases h
def yB(g:List TV->Option TV):List AV->St->KS->OR:=fun args st k=>match aGq st with
 |true=>mJ g args st k
 |false=>none
def aDN(P:bQe)(f:bQf)(g:List TV->Option TV):Prop:=∀(w:bQ9) (vs:List bQa) (ts:List TV) (R:TV),fX w->cW w vs ts->g ts=some R->Calls P f vs.toArray w fun e w'=>∃v,e= .returned v/\Below w.heap.size w w'/\WT w' v R
theorem aOB{P:bQe}{f:bQf}{g:List TV->Option TV}(h:aDN P f g):aAD P f (yB g):=fun {args st k r Γ w vs} q hs hc=>by
 unfold yB at q
 split at q
 ·next ht=>
  have X:=aLA hs ht
  unfold mJ at q
  split at q
  ·next ts y=>
   split at q
   ·next a G=>
    rw[bIL]at G
    obtain⟨R,h1,h2⟩:=G
    have N:=zY (w:=w) (fun a t v e c=>aEu hs nR a t v e c) y hc
    intro K O
    refine Calls.mono (h w vs ts R X N h1) ?_
    rintro e w' ⟨v,rfl,B,A⟩
    exact O _ _ _ w' Γ q (dF.ext hs B) (aN2 h2 A)
   ·cases q
  ·cases q
 ·cases q
theorem aLN{P:bQe}{pr:cM}{f:bQf}{g:List TV->Option TV}(E:pr f=some (yB g)){vs:List TV}{R:TV}{own:Bool}(h:nW g vs=some (R,own)):jT P pr f vs R own:=by
 unfold nW at h
 split at h
 ·next z=>
  simp only[bIL,bIM]at h
  obtain⟨R',h1,a,h2,Q⟩:=h
  cases Q
  intro st aS F S T U d V H I
  refine⟨a,st,F,⟨aOi h2,aM5 h2,fun _ h=>h,fun _ h=> .inl h,fun _ _=>rfl,rfl,rfl,bIK _,fun h=>by cases h⟩,0,fun n _ k=> ?_⟩
  have W:=aA5 (aEy (st:=st) (F:=F) d nR) T z
  show(Option.rec (motive:=fun _=>IH->List AV->St->KS->OR) (wS P (P.funcs[f]?)) (fun p _=>p) (pr f)) _ aS st k=_
  rw[E]
  show yB g aS st k=_
  unfold yB
  rw[aOh I]
  show mJ g aS st k=_
  unfold mJ
  rw[W]
  simp only[h1,h2,bIS]
 ·cases h
end
section
theorem aIe{st:St}{b:cH}:Tr.find st.nxt (st.new b).heap=some b:=by
 show Tr.find st.nxt (Tr.put (some b) st.nxt st.heap)=_
 rw[aIj,if_pos rfl]
theorem aIT{st:St}{b:cH}{id:Id}(h:id.nat<st.nxt.nat):Tr.find id (st.new b).heap=Tr.find id st.heap:=by
 show Tr.find id (Tr.put (some b) st.nxt st.heap)=_
 rw[aIj,if_neg (fun e=>by rw[e]at h;exact bJq _ h)]
theorem aOf{pr:cM}{f:bQf}{z:Nat}(h1:∀m st k,eO PG pr f (cD PG pr true (m+6)) [.v (.slice none 0 0)] st k=k (.v (.slice none 0 0)) st)
  (h2:∀m st k,eO PG pr f (cD PG pr true (m+6)) [.se] st k=k (.sl st.nxt 0 0 (some 0) z) (st.new ⟨[],true⟩))
  (p:∀m st id off sz cap b,(st.new ⟨[],true⟩).vis id->FC (st.new ⟨[],true⟩).heap id b->off<=b.cells.length->∀k,eO PG pr f (cD PG pr true (m+6)) [.sl id off 0 cap sz] st k=k (.sl st.nxt 0 0 (some 0) z) (st.new ⟨[],true⟩)):jT PG pr f [.em] .em false:=by
 intro st al F q r i d s l _
 have new:∀a:AV,(∀m k,eO PG pr f (cD PG pr true (m+6)) [a] st k=k (.sl st.nxt 0 0 (some 0) z) (st.new ⟨[],true⟩))->∃a' st' F',aAN st st' F F' a' .em false/\∃N,∀n,N<=n->∀k,eO PG pr f (cD PG pr true n) [a] st k=k a' st':=fun a h=>by
  refine⟨.sl st.nxt 0 0 (some 0) z,st.new ⟨[],true⟩,fun id=>F id\/id=st.nxt,⟨?_,rfl,fun id h=> .inl h,fun id h=>h.elim .inl fun e=> .inr ?_,fun id h=>aIT h,rfl,rfl, ?_,fun h=>by cases h⟩,6,fun n hn k=> ?_⟩
  ·exact .ems (blk:=⟨[],true⟩) (.inr rfl) ⟨aIe,rfl⟩ (bIK _)
  ·subst e;rw[mB];exact⟨bIK _,bIZ _⟩
  ·rw[mB];exact Nat.le_succ _
  ·obtain⟨m,rfl⟩:∃m,n=m+6:=⟨n-6,by omega⟩
   exact h m k
 cases r with |cons t g=>
 cases g
 cases t with
 | emv=>exact⟨_,st,F,⟨.emv,rfl,fun _ h=>h,fun _ h=> .inl h,fun _ _=>rfl,rfl,rfl,bIK _,fun h=>by cases h⟩,6,fun n hn k=>by
   obtain⟨m,rfl⟩:∃m,n=m+6:=⟨n-6,by omega⟩
   exact h1 m st k⟩
 |emse=>exact new _ fun m k=>h2 m st k
 |ems o hf g=>
  refine new _ fun m k=>p m st _ _ _ _ _ (d _ o) ⟨?_,hf.nm⟩ g k
  rw[aIT (i _ o)];exact hf.hf
theorem aYm{pr:cM}(c:pr 93=none)(m:Nat)(st:St)(id:Id)(off sz:Nat)(cap:Option Nat)(b:cH)(j:(st.new ⟨[],true⟩).vis id)(hf:FC (st.new ⟨[],true⟩).heap id b)(g:off<=b.cells.length)(k:KS):
  eO PG pr 93 (cD PG pr true (m+6)) [.sl id off 0 cap sz] st k=k (.sl st.nxt 0 0 (some 0) 1) (st.new ⟨[],true⟩):=by
 unfold eO
 rw[c]
 have h:∀K:List AV->OR,eQ (st.new ⟨[],true⟩) id (fun b=>fR 0 off b.cells K)=K []:=fun K=>by
  rw[gX j hf,jW 0 off b.cells _ (by omega)];rfl
 conv=>lhs;whnf
 refine(h _).trans ?_
 kernel_rfl
theorem aXE{pr:cM}(c:pr 93=none)(m:Nat)(st:St)(k:KS):
  eO PG pr 93 (cD PG pr true (m+6)) [.se] st k=k (.sl st.nxt 0 0 (some 0) 1) (st.new ⟨[],true⟩):=by
 unfold eO
 rw[c]
 kernel_rfl
theorem aVQ{pr:cM}(c:pr 93=none)(m:Nat)(st:St)(k:KS):
  eO PG pr 93 (cD PG pr true (m+6)) [.v (.slice none 0 0)] st k=k (.v (.slice none 0 0)) st:=by
 unfold eO
 rw[c]
 kernel_rfl
theorem aXT{pr:cM}(c:pr 93=none):jT PG pr 93 [.em] .em false:=aOf (aVQ c) (aXE c) (aYm c)
theorem aWN{pr:cM}(c:pr 113=none)(m:Nat)(st:St)(id:Id)(off sz:Nat)(cap:Option Nat)(b:cH)(j:(st.new ⟨[],true⟩).vis id)(hf:FC (st.new ⟨[],true⟩).heap id b)(g:off<=b.cells.length)(k:KS):
  eO PG pr 113 (cD PG pr true (m+6)) [.sl id off 0 cap sz] st k=k (.sl st.nxt 0 0 (some 0) 4) (st.new ⟨[],true⟩):=by
 unfold eO
 rw[c]
 have h:∀K:List AV->OR,eQ (st.new ⟨[],true⟩) id (fun b=>fR 0 off b.cells K)=K []:=fun K=>by
  rw[gX j hf,jW 0 off b.cells _ (by omega)];rfl
 conv=>lhs;whnf
 refine(h _).trans ?_
 kernel_rfl
theorem aY8{pr:cM}(c:pr 113=none)(m:Nat)(st:St)(k:KS):
  eO PG pr 113 (cD PG pr true (m+6)) [.se] st k=k (.sl st.nxt 0 0 (some 0) 4) (st.new ⟨[],true⟩):=by
 unfold eO
 rw[c]
 kernel_rfl
theorem aW4{pr:cM}(c:pr 113=none)(m:Nat)(st:St)(k:KS):
  eO PG pr 113 (cD PG pr true (m+6)) [.v (.slice none 0 0)] st k=k (.v (.slice none 0 0)) st:=by
 unfold eO
 rw[c]
 kernel_rfl
theorem aY5{pr:cM}(c:pr 113=none):jT PG pr 113 [.em] .em false:=aOf (aW4 c) (aY8 c) (aWN c)
end
end Go.Proofs.YtmjoaipkaddkbaaGreatDoor.Ev
namespace Go.Proofs.YtmjoaipkaddkbaaGreatDoor
section
open Go Go.RowKit Go.Shelf
attribute [local go_sem] Oper.semAt_some
abbrev WK(K:Nat):={ x:Nat// x<K }
abbrev W32:=WK 4294967296
def rX(pre:List (Nat×W32)):Nat:=val ((pre.map fun p=>p.2.1).reverse)
theorem aX6(pre:List (Nat×W32))(x:Nat×W32):rX (pre++[x])=x.2.1+4294967296*rX pre:=by
 simp [rX,val]
theorem bCF(pre:List (Nat×W32))(h:pre.length<=1):rX pre<4294967296:=by
 match pre,h with
 | [],_=>simp [rX,val]
 | [x],_=>simp [rX,val];exact x.2.2
 |_::_::_,h=>simp at h
def zM(n₀ Bs:Nat)(A B:bQ9):Prop:=Below n₀ A B/\∀v,A.cell? ⟨Bs,0,none⟩=some v->B.cell? ⟨Bs,0,none⟩=some v
set_option maxRecDepth 100000 in
set_option maxHeartbeats 2000000 in
theorem aVk{K:Nat}(F:Fence)(n:Nat)(hf:F.fn 184)(hro:F.round=none)(hn:1<=n)(l Bs n₀:Nat)(A:Option bQh)(c:Nat)(xs:List Nat)(hlen:xs.length<=35184372088832)(hL:∀i,xs.getD i 0<K)(J Jx:List (Nat×WK K)->bQ9->Prop)
  (hY:∀pre x W,J pre W->pre.length<xs.length->YieldAt F (n-1) prog l #[.int .i64 (x.1:Int),.int .u32 ((x.2.1:Nat):Int)] W fun e W'=>
   (e= .returned (.bool true)/\J (pre++[x]) W'/\zM n₀ Bs W W')\/(e= .returned (.bool false)/\Jx (pre++[x]) W'))
  (W:bQ9) (hBs:W.cell? ⟨Bs,0,none⟩=some (.slice A xs.length c)) (hc:0<xs.length->∃b off:Nat,A=some ⟨b,off,none⟩/\b<n₀/\∀j,j<xs.length->W.cell? ⟨b,off+j,none⟩=some (.int .u32 ((xs.getD j 0:Nat):Int))) (h0:J [] W):
  CallsIn F n prog 184 #[.func (.yield l) #[] #[],.pointer (some ⟨Bs,0,none⟩)] W fun e W'=>(∃v,e= .returned v)/\
   ((∃ys:List (Nat×WK K),(ys.map (fun p=>p.2.1)=xs.reverse/\ys.map (fun p=>p.1)=(bJh xs.length).reverse)/\J ys W')\/(∃pre,True/\Jx pre W')):=by
 refine callsIn_of_wp func184 rfl hf ?_ hro
 simp only[ntmps184,bKm,bIV,bJm,bL0,bL1,bL2,bL3,bL4,bL5,bJO,bJG]
 have HC:=Lib.hid hc
 clear hc
 gi_wp2
 gi_loopw [3] (fun i wr=>∃j:Nat,j<=xs.length/\i= .int .i64 ((j:Int)-1)/\∃pre,Hid (pre.map (fun p:Nat×WK K=>p.2.1)=(xs.drop j).reverse/\pre.map (fun p:Nat×WK K=>p.1)=((bJh xs.length).drop j).reverse)/\J pre wr/\Hid (zM n₀ Bs W wr))
  (fun i _=>(intOf i+1).toNat)
 case atStart=>exact⟨xs.length,bIK _,rfl,[],by simp [Hid],h0,⟨Below.refl _ _,fun _ h=>h⟩⟩
 case round=>
  obtain⟨j,hj,rfl,pre,HP,hJs,HK⟩:=hrel
  have hbx:=HK.out.2 _ hBs
  by_cases hlt:0<j
  ·obtain⟨k,rfl⟩:∃k,j=k+1:=⟨j-1,by omega⟩
   obtain⟨b,off,rfl,hb,hcell⟩:=HC.out (by omega)
   obtain⟨x,hx⟩:∃x:WK K,xs.getD k 0=x.1:=⟨⟨xs.getD k 0,hL k⟩,rfl⟩
   have hck:wr.cell? ⟨b,off+k,none⟩=some (.int .u32 ((x.1:Nat):Int)):=by
    rw[←hx];exact(HK.out.1.cell (p:=⟨b,off+k,none⟩) hb).trans (hcell k (by omega))
   have hpl:pre.length<xs.length:=by
    have:=congrArg bKn HP.out.1
    simp at this;omega
   obtain⟨fn,tmps,assign,body,hy,hR⟩:=hY _ (k,x) wr hJs hpl
   dsimp only at hy
   have HD:Hid ((pre++[(k,x)]).map (fun p:Nat×WK K=>p.2.1)=(xs.drop k).reverse/\(pre++[(k,x)]).map (fun p:Nat×WK K=>p.1)=((bJh xs.length).drop k).reverse):=by
    constructor
    ·rw[bKH (show k<xs.length by omega),bLJ,bKh,HP.out.1]
     have:xs[k]=x.1:=by rw[←hx,List.getD_eq_getElem?_getD,List.getElem?_eq_getElem (show k<xs.length by omega)];rfl
     simp [this]
    ·rw[bKH (show k<(bJh xs.length).length by rw[bLF];omega),bLJ,bKh,HP.out.2,bMc]
     rfl
   clear hcell HC hx
   have hik:(((k+1:Nat):Int))-1=(k:Int):=by omega
   rw[hik]at*
   gi_wp2
   refine hR.mono ?_
   rintro e W3 (⟨rfl,hJ3,hk3⟩|⟨rfl,hJx3⟩)
   ·gi_wp2
    go_roundw
    case rel=>exact⟨k,by omega,rfl,_,HD,hJ3,⟨HK.out.1.trans hk3.1,fun v hv=>hk3.2 v (HK.out.2 v hv)⟩⟩
    case measure=>simp [intOf]
   ·gi_wp2
    refine bodyPost_ret (results_none rfl _ _ _) rfl ?_
    exact⟨⟨_,rfl⟩,.inr ⟨_,trivial,hJx3⟩⟩
  ·obtain rfl:j=0:=by omega
   gi_wp2
   go_end0
   exact⟨⟨_,rfl⟩,.inl ⟨pre,by have:=HP.out;simpa using this,hJs⟩⟩
set_option maxHeartbeats 1000000 in
theorem aL6(F:Fence)(n:Nat)(h5:F.fn 96)(hro:F.round=none)(a:Option bQh)(len cap:Nat)(w:bQ9):
  CallsIn F n prog 96 #[.slice a len cap] w fun e w'=>e= .returned (.func (.func 184) #[] #[.pointer (some ⟨w.heap.size,0,none⟩)])/\w'=w.alloc (.cells #[.slice a len cap] 45):=by
 refine callsIn_of_wp func96 rfl h5 ?_ hro
 simp only[ntmps96,bKm,bIV,bJm,bL0,bL1,bL2,bL3,bL4,bL5,bJO,bJG]
 gi_wp2
 go_ret
 exact⟨rfl,rfl⟩
theorem aTm{n₀ Bs:Nat}{A B C:bQ9}(h:zM n₀ Bs A B)(k:zM n₀ Bs B C):zM n₀ Bs A C:=⟨h.1.trans k.1,fun v hv=>k.2 v (h.2 v hv)⟩
theorem aTt{n₀ Bs:Nat}{w:bQ9}(h1:n₀<=w.heap.size)(h2:Bs<w.heap.size)(W:bQ9)(l:Nat)(o o':Obj)(a:w.heap.size<=l)(b:W.heap[l]? =some o)(c:o.isCells=false)(d:o.isWalk=false):zM n₀ Bs W (W.putObj l o'):=by
 have h:=belowK_b (w:=w) (bIK _) W l o o' a b c d
 exact⟨h.mono h1,fun v hv=>(h.cell (p:=⟨Bs,0,none⟩) h2).trans hv⟩
theorem aL3{K:Nat}(F:Fence)(n:Nat)(hf:F.fn 184)(hro:F.round=none)(hn:1<=n)(Bs n₀:Nat)(A:Option bQh)(c:Nat)(xs:List Nat)(w:bQ9)(hBs:Bs<w.heap.size)(hn₀:n₀<=w.heap.size)
  (hc:w.cell? ⟨Bs,0,none⟩=some (.slice A xs.length c)) (hlen:xs.length<=35184372088832) (hL:∀i,xs.getD i 0<K) (hI:0<xs.length->∃b off:Nat,A=some ⟨b,off,none⟩/\b<n₀/\∀j,j<xs.length->w.cell? ⟨b,off+j,none⟩=some (.int .u32 ((xs.getD j 0:Nat):Int))):
  SeqStopsK F n prog 184 #[.pointer (some ⟨Bs,0,none⟩)] (fun x:Nat×WK K=> #[Value.int .i64 (x.1:Int),Value.int .u32 ((x.2.1:Nat):Int)]) (zM n₀ Bs) (fun ys=>ys.map (fun p=>p.2.1)=xs.reverse/\ys.map (fun p=>p.1)=(bJh xs.length).reverse) (fun _=>True) xs.length w:=fun l J Jx W hW _ _ hY h0=>by
 have hc':=(hW.cell (p:=⟨Bs,0,none⟩) hBs).trans hc
 refine aVk F n hf hro hn l Bs n₀ A c xs hlen hL J Jx hY W hc' (fun h=> ?_) h0
 obtain⟨b,off,e,hb,hcell⟩:=hI h
 exact⟨b,off,e,hb,fun j hj=>(hW.cell (p:=⟨b,off+j,none⟩) (bIP hb hn₀)).trans (hcell j hj)⟩
set_option maxRecDepth 100000 in
set_option maxHeartbeats 2000000 in
theorem aUT(F:Fence)(n:Nat)(h3:F.fn 178)(h5:F.fn 96)(h7:F.fn 184)(hro:F.round=none)(hn:3<=n)(a:Option bQh)(c:Nat)(xs:List Nat)(w:bQ9)(h:jS w (.slice a xs.length c) xs)(hs:xs.length<=2):
  CallsIn F n prog 178 #[.slice a xs.length c] w fun e W'=>e= .returned (.int .u64 ((val xs:Nat):Int))/\Below w.heap.size w W':=by
 have h1:1<=n:=by omega
 have hL:=h.limb
 have hI:0<xs.length->∃b off:Nat,a=some ⟨b,off,none⟩/\b<w.heap.size/\∀j,j<xs.length->w.cell? ⟨b,off+j,none⟩=some (.int .u32 ((xs.getD j 0:Nat):Int)):=fun h0=>by
  obtain⟨b,off,e,hb, -,hcell⟩:=h.at_ h0
  exact⟨b,off,e,hb,hcell⟩
 clear h
 have HI:=Lib.hid hI
 clear hI
 refine callsIn_of_wp_marks func178 rfl h3 ?_ hro
 simp only[ntmps178,bKm,bIV,bJm,bL0,bL1,bL2,bL3,bL4,bL5,bJO,bJG]
 gi_wp2_with (gi_at_call 96;refine(aL6 F (n-1) h5 hro _ _ _ _).mono ?_;rintro e w' ⟨rfl,rfl⟩)
 have bS:=Boxed.new w 103 (.int .u64 0)
 have bN:=Boxed.new (w.alloc (.cells #[.int .u64 0] 103)) 45 (.slice a xs.length c)
 rw[World.size_alloc]at bN
 have hB0:Below w.heap.size w ((w.alloc (.cells #[.int .u64 0] 103)).alloc (.cells #[.slice a xs.length c] 45)):=((Below.refl _ w).alloc (bIK _) _).alloc (by simp) _
 have hI2:0<xs.length->∃b off:Nat,a=some ⟨b,off,none⟩/\b<w.heap.size/\∀j,j<xs.length->((w.alloc (.cells #[.int .u64 0] 103)).alloc (.cells #[.slice a xs.length c] 45)).cell? ⟨b,off+j,none⟩=some (.int .u32 ((xs.getD j 0:Nat):Int)):=fun h0=>by
  obtain⟨b,off,e,hb,hcell⟩:=HI.out h0
  exact⟨b,off,e,hb,fun j hj=>(hB0.cell (p:=⟨b,off+j,none⟩) hb).trans (hcell j hj)⟩
 refine wpIn_rangeFunc_ownG hro h1 (gf:=184) (lb:= #[.pointer (some ⟨w.heap.size+1,0,none⟩)]) rfl h7 (enters_of func184 (by kernel_rfl) rfl)
  (aL3 F (n-1) h7 hro (by omega) (w.heap.size+1) w.heap.size a c xs _ (by simp) (by simp;omega) bN.cell (by omega) (fun i=>hL.getD i) hI2) aTm (aTt (by simp;omega) (by simp)) (Below.refl _ _) (fun _=>rfl)
  (fun pre W=>(W.cell? ⟨w.heap.size,0,none⟩=some (.int .u64 ((rX pre:Nat):Int))/\W.frozen? ⟨w.heap.size,0,none⟩=false)/\Below w.heap.size w W)
  (fun _ _ _=>False)
  (OwnFrom.and (Own.from (fun s A B row hs hg hr=>⟨cell_kept hs.1 hg hr,(frozen_kept hs.1 hg hr).trans hs.2⟩) _) (ownFrom_below (bIK _) (by simp;omega)))
  (fun _ _ _ _ _ hs _ _=>hs)
  ⟨⟨(bS.alloc _).cell,(bS.alloc _).frozen⟩,hB0⟩
  (fun x=>{ tmps:= #[.slice a xs.length c,undef,.int .u64 0,.pointer (some ⟨w.heap.size,0,none⟩),undef,.int .u32 ((x.2.1:Nat):Int),.slice a xs.length c,.func (.func 184) #[] #[.pointer (some ⟨w.heap.size+1,0,none⟩)],.int .i64 (x.1:Int),.int .u32 ((x.2.1:Nat):Int),undef,undef,undef,undef,undef,undef],defers:=[] }) ?assign ?body ?done ?stop
 case assign=>
  intro l x W K hK
  gi_wp2
  exact hK
 case body=>
  rintro l pre x W ⟨⟨hc,hf⟩,hB⟩ hpl
  have hv:=bCF pre (by omega)
  have HV:=Lib.hid (aX6 pre x)
  have hxl:=x.2.2
  have HU:=Lib.hid (aHO (rX pre) x.2.1 hv hxl)
  generalize x.2.1=xw at*
  generalize rX pre=vp at*
  gi_wp2
  refine⟨(KeepsOthers.setCell _ _ _).from _,⟨(Below.refl w.heap.size W).setCell (p:=⟨w.heap.size,0,none⟩) (bIK _) _,fun v hv=> ?_⟩,⟨?_,by rw[World.frozen?_setCell];exact hf⟩,hB.setCell (p:=⟨w.heap.size,0,none⟩) (bIK _) _⟩
  ·rw[World.cell?_setCell_other]
   ·exact hv
   ·intro e;injection e with e1;omega
  ·rw[HV.out,←HU.out]
   exact World.cell?_setCell_same' _ _ _ (by rw[hc];rfl)
 case done=>
  rintro D ys W hD hys ⟨⟨hc,_⟩,hB⟩ hK
  have hval:rX ys=val xs:=by unfold rX;rw[hys.1,bMv]
  rw[hval]at hc
  clear hval hys
  gi_wp2
  refine⟨by simp,.inl ⟨_,_,rfl,run_takeDeferred hK, ?_⟩⟩
  exact⟨_,results_tmp rfl _ _ _,rfl,hB.trans (belowK_b (w:=w) (bIK _) W D _ _ (by simp at hD;omega) hK rfl rfl)⟩
 case stop=>
  rintro D c pre W _ _ h _
  exact h.elim
theorem aWm{A:Option bQh}{n c:Nat}{xs:List Nat}{w:bQ9}(h:jS w (.slice A n c) xs)(hs:n<=2):
  Calls prog 178 #[.slice A n c] w fun e w'=>e= .returned (.int .u64 ((val xs:Nat):Int))/\bE w w':=by
 obtain⟨rfl,hl,hm⟩:=h.len
 exact callsIn_wide.1 (aUT Fence.wide 3 trivial trivial trivial rfl (by omega) A c xs w h hs)
end
end Go.Proofs.YtmjoaipkaddkbaaGreatDoor
namespace Go.Proofs.YtmjoaipkaddkbaaGreatDoor.Ev
section
open Go Go.RowKit
theorem aVP{c:TV}{y:Nat}(h:aCa c=some y):c=wc y/\y<4294967296:=by
 unfold aCa at h
 split at h
 ·split at h
  ·next g=>cases h;exact⟨rfl,g⟩
  ·cases h
 ·cases h
theorem aMf:∀ {cs:List TV} {xs:List Nat},cs.mapM aCa=some xs->cs=xs.map wc/\bC xs
 | [],xs,h=>by cases h;exact⟨rfl,fun _ h=>by cases h⟩
 |c::cs,xs,h=>by
  rw[List.mapM_cons]at h
  simp only[Option.bind_eq_bind,bIL,Option.pure_def,Option.some.injEq]at h
  obtain⟨y,h1,ys,h2,rfl⟩:=h
  obtain⟨rfl,g⟩:=aVP h1
  obtain⟨rfl,d⟩:=aMf h2
  refine⟨rfl,fun z hz=> ?_⟩
  rcases bJ4.1 hz with rfl|hz
  ·exact g
  ·exact d z hz
theorem aEt{t:TV}{xs:List Nat}(h:rO t=some xs):bC xs/\((t= .em/\xs=[])\/t= .im 1 (xs.map wc)):=by
 unfold rO at h
 split at h
 ·cases h;exact⟨(fun _ h=>by cases h),.inl ⟨rfl,rfl⟩⟩
 ·obtain⟨rfl,d⟩:=aMf h;exact⟨d,.inr rfl⟩
 ·cases h
theorem bA2{w:bQ9}{v:bQa}{t:TV}{xs:List Nat}(h:WT w v t)(hx:rO t=some xs)(d:xs.length<=2):∃A c,v= .slice A xs.length c/\jS w v xs:=by
 obtain⟨i,⟨rfl,rfl⟩|rfl⟩:=aEt hx
 ·obtain⟨A,c,rfl⟩:=aGe h
  exact⟨A,c,rfl,A,c,rfl,bIR _,by decide,i,fun h=>absurd h (bJq 0)⟩
 ·obtain⟨A,c,rfl,hc,hh⟩:=aDM (n:=xs.length) (by decide) (by simp) h
  refine⟨A,c,rfl,A,c,rfl,hc,by omega,i,fun h0=> ?_⟩
  obtain⟨b,off,e,q,j⟩:=hh h0
  refine⟨b,off,e,q,fun k r=> ?_⟩
  obtain⟨u,g1,g2⟩:=j k (wc (xs.getD k 0)) (by simp [r])
  cases g2
  exact g1
def vT(ts:List TV):Option TV:=(aDI ts).map Prod.fst
theorem aX5:aAz PG 178 vT:=fun w vs ts R s a=>by
 unfold vT aDI at a
 split at a
 ·next t=>
  rw[bIM]at a
  obtain⟨⟨R',o⟩,a,rfl⟩:=a
  rw[bIL]at a
  obtain⟨xs,hx,a⟩:=a
  split at a
  ·next d=>
   cases a
   cases s with |cons B hn=>
   cases hn
   obtain⟨A,c,rfl,C⟩:=bA2 B hx d
   refine Calls.mono (aWm C d) ?_
   rintro e w' ⟨rfl,hx⟩
   exact⟨_,rfl,hx,.int _ _⟩
  ·cases a
 ·cases a
def wP:cM:=fun f=>bif Nat.beq f 178 then some (mJ vT)else none
theorem aQ1:∀(n:Nat) (xs:List Nat),(xs.map wc).all (gV (n+1))=true:=fun n xs=>by
 rw[List.all_map,bJt]
 intro x _;rfl
theorem aMl:∀xs:List Nat,cL (xs.map wc)=xs.map wc
 | []=>rfl
 |x::xs=>by simp only[bJu,cL,aMl xs];rfl
theorem aVq{pr:cM}(l:pr 178=some (mJ vT)){vs:List TV}{R:TV}{own:Bool}(h:aDI vs=some (R,own)):jT PG pr 178 vs R own:=by
 refine aM3 l ?_
 have h':=h
 unfold aDI at h
 split at h
 ·next t=>
  rw[bIL]at h
  obtain⟨xs,hx,h⟩:=h
  split at h
  ·next d=>
   cases h
   obtain⟨i,⟨rfl,rfl⟩|rfl⟩:=aEt hx
   ·rfl
   ·unfold nW
    cases xs with
    |nil=>rfl
    | cons x xs=>
     have D:[TV.im 1 ((x::xs).map wc)].all (gV nR)=true:=by
      show(gV (11+1) (TV.im 1 ((x::xs).map wc))&&true)=true
      rw[bK6]
      show(Nat.ble 1 1&&((x::xs).map wc).all (gV (10+1)))=true
      rw[aQ1];rfl
     rw[if_pos D]
     have hn:cL [TV.im 1 ((x::xs).map wc)]=[TV.im 1 ((x::xs).map wc)]:=by
      simp only[cL,jN,aMl]
      rw[if_neg (fun e=>by simp at e)]
     rw[hn]
     unfold vT
     rw[h']
     rfl
  ·cases h
 ·cases h
theorem aJD{pr:cM}(l:pr 178=some (mJ vT))(h1:pr 93=none)(h2:pr 113=none):aCi PG pr wO:=fun f vs R own h=>by
 unfold wO at h
 cases hf:Nat.beq f 178 with
 |true=>
  rw[hf]at h
  obtain rfl:=bJ0 hf
  exact aVq l h
 | false=>
  rw[hf]at h
  cases hc:aFT.elem f with
  |false=>simp only[hc]at h;cases h
  | true=>
   simp only[hc,cond_true,cond_false]at h
   unfold aQV at h
   split at h
   ·cases h
    have m:f∈aFT:=List.elem_iff.1 hc
    simp only[aFT,bJ4,List.not_mem_nil,or_false]at m
    rcases m with rfl|rfl
    ·exact aXT h1
    ·exact aY5 h2
   ·cases h
theorem aSx:lE PG wP:=fun f p h=>by
 unfold wP at h
 cases hf:Nat.beq f 178 with
 |false=>rw[hf]at h;cases h
 |true=>
  rw[hf]at h
  cases h
  obtain rfl:=bJ0 hf
  refine⟨⟨_,(by kernel_rfl:PG.funcs[178]? =some f178),by intro h;cases h⟩,aNM aX5⟩
end
section
open Go Go.RowKit
variable {m:Nat}
theorem aK8:PG.follows .mixedOrders=true:=by kernel_rfl
theorem aJt:mD PG:=aYy (by kernel_rfl)
theorem bBL:wP 178=some (mJ vT):=by kernel_rfl
theorem aQP:∀f,cC f=true->wP f=none:=fun f h=>by
 unfold wP
 cases hf:Nat.beq f 178 with
 |false=>rfl
 |true=>
  obtain rfl:=bJ0 hf
  rw[show cC 178=false from by kernel_rfl]at h;cases h
theorem aQu:∀f,wP f≠none->cC.prim f=true:=fun f h=>by
 unfold wP at h
 cases hf:Nat.beq f 178 with
 |false=>rw[hf]at h;exact absurd rfl h
 |true=>
  obtain rfl:=bJ0 hf
  kernel_rfl
theorem bH4(n:Nat):mK PG wP (VX n):=aBO (aJD bBL (by kernel_rfl) (by kernel_rfl)) (fun _ h=>aDo h) aQP aQu n
theorem aA7{n:Nat}{f:bQf}{ts:List TV}{R:TV}{own:Bool}(h:VX n f ts=some (R,own)){w:bQ9}(d:fX w){vs:List bQa}(j:cW w vs ts):
  Calls PG f vs.toArray w fun e w'=>∃v,e= .returned v/\Below w.heap.size w w'/\WT w' v (pM R own):=aHv aK8 aSx aJt (bH4 n f ts R own h) d j
theorem aPL{q:Rat}(h:FR 9000000 q):VX (m+2) 139 [tR q]=some (.int .i64 (fW q),false):=by
 have hs:=aBE (m:=m) h.1
 refine bY rfl func139 aO2 rfl ?_
 simp only[f139,N1,bD,bJ,bM,bL,bH,zB,zG]
 simp (disch:=first|rfl|omega)only[S1,aC,aE,aM,aJ,zB,reduceCtorEq,zD,zG,zH,TQ,aT,vJ 85 rfl,hs _]
 rfl
def pG(C:List (List Rat))(x:Rat):Prop:=∃k,C.length<=400/\(∀p∈C,WD 210000 p/\p.length<=400/\210000+(k+1)*p.length<=320000)/\(x.den<2^k/\x.num.natAbs<2^k)/\k<=300000
theorem pG.ch{C:List (List Rat)}{x:Rat}(h:pG C x):ChC C x:=by
 obtain⟨k,hc,j,hx,Q⟩:=h
 have fx:FR 10000 x:=qH hx (by omega)
 have fe:∀p∈C,∀q:List Rat,(∀c∈q,c∈p)->q.length<=p.length->FR 10000 (eP x q):=fun p g q hq s=>by
  obtain⟨A,I,S⟩:=j p g
  refine qH (aLy (A.sub hq) hx.1 hx.2) ?_
  have:=bJ7 (k+1) s
  omega
 refine⟨fun p g=>⟨fun w d=> ?_,fun q hq s w v v' d t i=> ?_,fun q c hq B s w v v' d t i=> ?_⟩,by omega,fun p g=>by have:=(j p g).2.1;omega,fun p g w v d t=> ?_⟩
 ·have h:=aA7 (aHx (m:=0) (z:=((0:Nat):Int)) (by decide) (by decide)) (w:=w) d (.cons (.int .i64 _) .nil)
  exact h
 ·have h:=aA7 (aJT (m:=0) (a:=eP x q) (b:=x) ((fe p g q hq (by omega)).mono (by decide)) (fx.mono (by decide))) (w:=w) d (.cons t (.cons i .nil))
  exact h
 ·have A:=(j p g).1
  have I:=(j p g).2.1
  have D:FR 30000 c:=(A.ps (by omega) (by omega)).2 c B
  have J:FR 30000 (eP x q*x):=((fe p g q hq (by omega)).mul fx (by decide))
  have h:=aA7 (aJE (m:=0) (a:=eP x q*x) (b:=c) J D) (w:=w) d (.cons t (.cons i .nil))
  exact h
 ·have h:=aA7 (aPL (m:=0) ((fe p g p (fun _ h=>h) (bIK _)).mono (k:=9000000) (by decide))) (w:=w) d (.cons t .nil)
  refine h.mono ?_
  rintro e w' ⟨v',rfl,u,i⟩
  cases i
  exact⟨rfl,u⟩
open Classical in
def yG(ts:List TV):Option TV:=if h:∃C x,ts=[tC C,tR x]/\pG C x then some (.int .i64 (gK h.choose h.choose_spec.choose:Nat))else none
theorem bB1:aDN PG 130 yG:=fun w vs ts R d j y=>by
 unfold yG at y
 split at y
 ·next h=>
  cases y
  obtain⟨h1,h2⟩:=h.choose_spec.choose_spec
  rw[h1]at j
  cases j with |cons K s=>
  cases s with |cons zu hn=>
  cases hn
  obtain⟨rx,rfl⟩:=aCf zu
  refine(bAV d h2.ch K zu).mono ?_
  rintro e w' ⟨rfl,hx⟩
  exact⟨_,rfl,hx,.int _ _⟩
 ·cases y
theorem aS0{sz:Nat}{a b:List TV}(h:tL sz a=tL sz b):a=b:=by
 unfold tL at h
 cases a<;>cases b<;>simp_all
theorem aSz{xs ys:List Nat}(hx:bC xs)(L:bC ys)(h:tW xs=tW ys):xs=ys:=by
 have:=congrArg rO h
 rw[aEQ hx,aEQ L]at this
 exact Option.some.inj this
theorem aHS{a b:Nat}(h:tW (aO a)=tW (aO b)):a=b:=by
 have h1:=aSz (cV a) (cV b) h
 rw[←cO a,h1,cO]
theorem aSA{q r:Rat}(h:tR q=tR r):q=r:=by
 unfold tR cR at h
 injection h with h
 simp only[List.cons.injEq,TV.b.injEq,decide_eq_decide,and_true]at h
 obtain⟨h1,h2, -,M⟩:=h
 have F:=aHS h2
 have N:=aHS M
 refine Rat.ext ?_ ?_
 ·omega
 ·simpa using N
theorem bFb{q r:Rat}(h:cR q=cR r):q=r:=aSA (congrArg TV.ag h)
theorem aJl{α:Type}{E:EC α}(G:∀a b,E.c a=E.c b->a=b):∀ {l l':List α},E.row l=E.row l'->l=l'
 | [],[],_=>rfl
 | [],b::l',h=>by
  have:=congrArg bKn h
  rw[EC.row_cons,bJ3,E.len]at this
  have g:=E.pos
  simp [EC.row]at this;omega
 |a::l,[],h=>by
  have:=congrArg bKn h
  rw[EC.row_cons,bJ3,E.len]at this
  have g:=E.pos
  simp [EC.row]at this;omega
 |a::l,b::l',h=>by
  rw[EC.row_cons,EC.row_cons]at h
  obtain⟨h1,h2⟩:=List.append_inj h (by rw[E.len,E.len])
  rw[G _ _ h1,aJl G h2]
theorem bF7{l l':List Rat}(h:tP l=tP l'):l=l':=aJl (E:=bP) (fun _ _ h=>bFb h) (aS0 h)
theorem bFM{c c':List (List Rat)}(h:tC c=tC c'):c=c':=aJl (E:=iU) (fun _ _ h=>bF7 (List.cons.inj h).1) (aS0 h)
theorem bDu{C:List (List Rat)}{x:Rat}(h:pG C x):yG [tC C,tR x]=some (.int .i64 (gK C x:Nat)):=by
 unfold yG
 have o:∃C' H,[tC C,tR x]=[tC C',tR H]/\pG C' H:=⟨C,x,rfl,h⟩
 rw[dif_pos o]
 obtain⟨h1, -⟩:=o.choose_spec.choose_spec
 have O:=bFM (List.cons.inj h1).1
 have F:=aSA (List.cons.inj (List.cons.inj h1).2).1
 have P:gK o.choose o.choose_spec.choose=gK C x:=congr (congrArg gK O.symm) F.symm
 exact congrArg (fun n:Nat=>some (TV.int .i64 (n:Int))) P
theorem aKi{n sz:Nat}(hs:0<sz){cs:List TV}(h:cs.all (gV n)=true):gV (n+1) (tL sz cs)=true:=by
 cases cs with
 |nil=>rfl
 |cons c cs=>
  show(Nat.ble 1 sz&&(c::cs).all (gV n))=true
  rw[bK0 hs,h];rfl
theorem aTn{n:Nat}{xs:List Nat}:gV (n+2) (tW xs)=true:=aKi (by decide) (aQ1 n xs)
theorem aT8{n:Nat}{q:Rat}:(cR q).all (gV (n+2))=true:=by
 unfold cR
 simp only[bJN,bKr,aTn,bK6];rfl
theorem bHT{n:Nat}{q:Rat}:gV (n+3) (tR q)=true:=aT8
theorem aJP{α:Type}{E:EC α}{n:Nat}(h:∀a,(E.c a).all (gV n)=true):∀l:List α,(E.row l).all (gV n)=true
 | []=>rfl
 |a::l=>by rw[EC.row_cons,List.all_append,h a,aJP h l];rfl
theorem bHF{n:Nat}{l:List Rat}:gV (n+3) (tP l)=true:=aKi (by decide) (aJP (E:=bP) (fun _=>aT8) l)
theorem bHe{n:Nat}{c:List (List Rat)}:gV (n+4) (tC c)=true:=aKi (by decide) (aJP (E:=iU) (fun _=>by simp only[iU,bJN,bKr,bHF,bK6]) c)
theorem aRG{C:List (List Rat)}{x:Rat}(h:pG C x):nW yG [tC C,tR x]=some (.int .i64 (gK C x:Nat),false):=by
 unfold nW
 rw[if_pos (by simp only[bJN,bKr,nR,bHe,bHT,bK6])]
 rw[(aK0 C x).2,bDu h]
 rfl
end
section
variable {m:Nat}
def qB:cN:=fun f args=>bif Nat.beq f 130 then nW yG args else wO f args
abbrev VY:Nat->cN:=gG PG cC qB
theorem bE8{args:List TV}:wO 130 args=none:=rfl
theorem bI1:nS wO qB:=fun f args r h=>by
 unfold qB
 cases hf:Nat.beq f 130 with
 |false=>exact h
 |true=>
  obtain rfl:=bJ0 hf
  rw[bE8]at h;cases h
theorem xy(n:Nat):nS (VX n) (VY n):=aJ7 bI1 (fun f args r h0 h1=>by
 unfold qB at h1
 cases hf:Nat.beq f 130 with
 |false=>rw[hf]at h1;simp only[cond_false]at h1;rw[h0]at h1;cases h1
 |true=>
  obtain rfl:=bJ0 hf
  kernel_rfl) n
theorem aTx{C:List (List Rat)}{x:Rat}(h:pG C x):CC (VY (m+1)) 130 [tC C,tR x] (.int .i64 (gK C x:Nat)):=by
 refine .of (aK0 C x) (aS5 C x) ?_
 have i:qB 130 [tC C,tR x]=some (.int .i64 (gK C x:Nat),false):=aRG h
 show(match qB _ _ with |some r=>some r|none=>_)=_
 rw[i]
theorem bE9(c:List (List Rat))(q r:Rat):Can [tC c,tR q,tR r]:=Can.cons (aJG c) (pD q r)
theorem bDl(c:List (List Rat))(q r:Rat):bW [tC c,tR q,tR r]<=cK:=by simp only[bW,aJK,uZ];decide
theorem bES:bQ PG 140 f140 [6] []=true:=by kernel_rfl
theorem bGM{C:List (List Rat)}{x y:Rat}(hx:pG C x)(d:pG C y)(nx:gK C x<=400)(ny:gK C y<=400):VY (m+2) 140 [tC C,tR x,tR y]=some (.int .i64 ((gK C x:Int)-(gK C y:Int)),false):=by
 have c3:=aTx (m:=m) hx
 have c4:=aTx (m:=m) d
 refine bY rfl func140 bES rfl ?_
 simp only[f140,N1,bD,bJ,bM,bL,bH,zB,zG]
 simp (disch:=first|rfl|omega)only[S1,aC,aE,aM,aJ,zB,reduceCtorEq,zD,zG,zH,aY,c3 _,c4 _,aQr (show gK C x<1000000 by omega) (show gK C y<1000000 by omega)]
theorem bGF{C:List (List Rat)}{x y:Rat}(hx:pG C x)(d:pG C y)(nx:gK C x<=400)(ny:gK C y<=400):CC (VY (m+2)) 140 [tC C,tR x,tR y] (.int .i64 ((gK C x:Int)-(gK C y:Int))):= .of (bE9 C x y) (bDl C x y) (bGM hx d nx ny)
theorem aM1{a:List Rat}{k j:Nat}{x:Rat}(h:gJ k a)(hx:x.den<2^j/\x.num.natAbs<2^j)(g:(j+1)*(tr a).length<=110000):pG (iS a) x:=by
 have h2:=h.two
 have v:=h.len
 have ta:=fK a
 have l:(j+1)*1<=(j+1)*(tr a).length:=bJ7 _ (by omega)
 have s:=h.all.2
 exact⟨j,by omega,fun p i=>by
  obtain⟨t,i2⟩:=h.all.1 p i
  have:=bJ7 (j+1) i2
  exact⟨t,by omega,by omega⟩,hx,by omega⟩
theorem aZp:bQ PG 56 f56 [6] []=true:=by kernel_rfl
theorem bDL{a:List Rat}{k j:Nat}{x y:Rat}(h:gJ k a)(hx:x.den<2^j/\x.num.natAbs<2^j)(d:y.den<2^j/\y.num.natAbs<2^j)(g:(j+1)*(tr a).length<=110000):VY (m+15) 56 [tP a,tR x,tR y]=some (.int .i64 (xV a x y),false):=by
 have h2:=h.two
 have l:(j+1)*1<=(j+1)*(tr a).length:=bJ7 _ (by omega)
 have fx:FR 30000 x:=qH hx (by omega)
 have fy:FR 30000 y:=qH d (by omega)
 have c1:=(aRU (m:=m+9) (a:=x) (b:=y) fx fy).up (xy _)
 have c2:=(bGp (m:=m) h).up (xy _)
 have n1:=aG5 h x
 have u:=aG5 h y
 have c3:=bGF (m:=m+12) (aM1 h hx g) (aM1 h d g) n1 u
 refine bY rfl func56 aZp rfl ?_
 simp only[f56,N1,bD,bJ,bM,bL,bH,zB,zG]
 simp (disch:=first|rfl|omega)only[S1,aC,aE,aM,aJ,zB,reduceCtorEq,zD,zG,zH,aY,vJ 55 rfl,c1 _,aAd]
 unfold xV
 refine cJ (fun e=> ?_) (fun e=> ?_)
 ·rw[if_pos (of_decide_eq_true e)]
  simp (disch:=first|rfl|omega)only[S1,aC,aE,aM,aJ,zB,reduceCtorEq]
  rfl
 ·rw[if_neg (of_decide_eq_false e)]
  simp (disch:=first|rfl|omega)only[S1,zB,reduceCtorEq,zD,zG,zH,aY,c2 _,c3 _]
theorem bEH{a:List Rat}{k j:Nat}{x y:Rat}(h:gJ k a)(hx:x.den<2^j/\x.num.natAbs<2^j)(d:y.den<2^j/\y.num.natAbs<2^j)(g:(j+1)*(tr a).length<=110000):CC (VY (m+15)) 56 [tP a,tR x,tR y] (.int .i64 (xV a x y)):= .of (aPu a x y) (aQG a x y) (bDL h hx d g)
theorem bBh:bQ PG 92 f92 [2] []=true:=by kernel_rfl
theorem bCx{a:List Rat}{k:Nat}(h:gJ k a):VY (m+16) 92 [tP a]=some (.int .i64 (aAx a),false):=by
 have w:=h.k9
 have c1:=(bDM (m:=m+2) h).up (xy _)
 have o:=aEp h.wd
 have c2:=bEH (m:=m) (j:=k+2) h (aMG o) o (by have:=h.h2;rw[show k+2+1=k+3 from rfl];omega)
 refine bY rfl func92 bBh rfl ?_
 simp only[f92,N1,bD,bJ,bM,bL,bH,zB,zG]
 simp (disch:=first|rfl|omega)only[S1,aC,aE,aM,aJ,zB,reduceCtorEq,zD,zG,zH,aY,TQV,aT,vJ 128 rfl,c1 _,vJ 56 rfl,c2 _]
 rfl
theorem bEd{a:List Rat}{k:Nat}(h:gJ k a):CC (VY (m+16)) 92 [tP a] (.int .i64 (aAx a)):= .of (iG a) (iZ a) (bCx h)
end
section
variable {m:Nat}
theorem bBT:bQ PG 83 f83 [2] []=true:=by kernel_rfl
theorem bFI{x:Bool×List Nat}(h:x.2.length<10000000):VX (m+2) 83 [tX x]=some (.b (!dW x),false):=by
 have c1:=aPj (m:=m) (x:=x) h
 refine bY rfl func83 bBT rfl ?_
 simp only[f83,N1,bD,bJ,bM,bL,bH,zB,zG]
 have hf:TV.ag [.b x.1,tW x.2]=tX x:=rfl
 simp (disch:=first|rfl|omega)only[S1,aC,aE,aM,aJ,zB,reduceCtorEq,zD,zG,zH,TF,hf,vJ 84 rfl,c1 _]
theorem bGs{x:Bool×List Nat}(h:x.2.length<10000000):CC (VX (m+2)) 83 [tX x] (.b (!dW x)):= .of (aK6 x) (aK1 x) (bFI h)
def yP:List (Bool×List Nat)->Nat->Int
 | [],_=> -1
 |x::l,j=>if dW x then yP l (j+1)else(j:Int)
theorem aO1:∀(l:List (Bool×List Nat)) (j:Nat),decide (0<=yP l j)= !l.all dW
 | [],_=>rfl
 |x::l,j=>by
  unfold yP
  rw[bJN]
  cases hx:dW x with
  |false=>rw[if_neg (by decide)];exact decide_eq_true (Int.natCast_nonneg j)
  |true=>rw[if_pos rfl,aO1 l (j+1)];rfl
def sD:TV:= .fn 83 [] []
theorem aRy(l:List (Bool×List Nat)):Can [eB l,sD]:=Can.cons (eV.t_can l) (Can.cons ⟨rfl,rfl⟩ Can.nil)
theorem aSo(l:List (Bool×List Nat)):bW [eB l,sD]<=cK:=by simp only[bW,aJ0,sD,dA];decide
theorem bBU:bQ PG 175 f175 [4,16] []=true:=by kernel_rfl
theorem bFj{l:List (Bool×List Nat)}(h:l.length<=1000)(a:∀x∈l,x.2.length<10000000):VX (m+3) 175 [eB l,sD]=some (.int .i64 (yP l 0),false):=by
 refine bY rfl func175 bBU rfl ?_
 simp only[f175,N1,bD,bJ,bM,bL,bH,zB,zG]
 simp (disch:=first|rfl|omega)only[S1,aN,aC,aE,aM,aJ,zB,zD,TF]
 refine .up (fun j e s=>s=eA/\e 0=some (eB l)/\e 1=some sD/\e 7=some (.int .i64 (l.length:Nat))/\e 8=some (.int .i64 (j:Nat))/\yP l 0=yP (l.drop j) j) l.length ?_ (dC (by omega)) ?_
 ·refine⟨rfl, ?_, ?_, ?_, ?_,rfl⟩<;>simp (disch:=first|rfl|omega)only[S1,zB]
 ·rintro j e s n ⟨rfl,e0,c,d,f,b⟩
  by_cases hc:j<l.length
  ·have h1:decide (j<l.length)=true:=decide_eq_true hc
   obtain⟨x,hx⟩:∃x,x=l.getD j (false,[]):=⟨_,rfl⟩
   have i:x∈l:=by rw[hx];exact tN hc
   have c1:=bGs (m:=m) (x:=x) (a x i)
   have k:l.drop j=x::l.drop (j+1):=by rw[bKH hc,hx];simp [hc]
   rw[k,yP]at b
   simp (disch:=first|rfl|omega)only[S1,zB,e0,c,d,f,h1,sD,nV,pB,←hx,vJ 83 rfl,c1 _]
   cases g:dW x
   ·rw[g,if_neg (by decide)]at b
    simp (disch:=first|rfl|omega)only[S1,zB,reduceCtorEq]
    rw[b]
   ·rw[g,if_pos rfl]at b
    simp (disch:=first|rfl|omega)only[S1,aC,aE,aM,aJ,zB,e0,c,d,f,sD]
    exact⟨hc,b⟩
  ·have h1:decide (j<l.length)=false:=decide_eq_false hc
   obtain rfl:j=l.length:=by omega
   rw[List.drop_length]at b
   simp (disch:=first|rfl|omega)only[S1,aC,aE,aM,aJ,zB,reduceCtorEq,d,f,h1]
   rw[b];rfl
theorem bH1{l:List (Bool×List Nat)}(h:l.length<=1000)(a:∀x∈l,x.2.length<10000000):CC (VX (m+3)) 175 [eB l,sD] (.int .i64 (yP l 0)):= .of (aRy l) (aSo l) (bFj h a)
theorem bDk:bQ PG 82 f82 [4] []=true:=by kernel_rfl
theorem bGo{l:List (Bool×List Nat)}(h:l.length<=1000)(a:∀x∈l,x.2.length<10000000):VX (m+4) 82 [eB l,sD]=some (.b (!l.all dW),false):=by
 have c1:=bH1 (m:=m) h a
 refine bY rfl func82 bDk rfl ?_
 simp only[f82,N1,bD,bJ,bM,bL,bH,zB,zG]
 simp (disch:=first|rfl|omega)only[S1,aC,aE,aM,aJ,zB,reduceCtorEq,zD,vJ 175 rfl,c1 _,aAd,aO1]
theorem bGV{l:List (Bool×List Nat)}(h:l.length<=1000)(a:∀x∈l,x.2.length<10000000):CC (VX (m+4)) 82 [eB l,sD] (.b (!l.all dW)):= .of (aRy l) (aSo l) (bGo h a)
end
section
variable {m:Nat}
theorem aJi{n:Nat}:decide (iz n=0)=decide (n=1):=by
 refine decide_eq_decide.2 ?_
 unfold iz
 cases n with
 |zero=>simp
 |succ n=>simp
theorem aS2{K N:Nat}(hK:1<=K):∀(f:Nat) (p q:List Rat),WD (K*3^(N-p.length)-1) p->WD (K*3^(N-p.length)-1) q->NF p->NF q->q.length<f->q.length<p.length->p.length<=N->WD (K*3^(N-1)) (pV f p q)/\(pV f p q).length<=N/\NF (pV f p q)
 |0,_,_,_,_,_,_,h,_,_=>absurd h (bJQ _)
 | f+1,p,q,wp,wq,np,nq,hf,d,hN=>by
  unfold pV
  by_cases U:q=[]
  ·rw[if_pos U]
   have:=bJ7 K (bJ9 (show 0<3 by decide) (show N-p.length<=N-1 by omega))
   exact⟨wp.mono (by omega),hN,np⟩
  ·rw[if_neg U]
   obtain⟨J,V,Z⟩:=aBG wp wq np nq U d hN hK
   obtain⟨F,L⟩:=aBf (a:=p) (b:=q) (by rw[nq.eq];exact U)
   rw[nq.eq]at F
   have lm:=kU (fG p q)
   rw[L.eq]at lm
   exact aS2 hK f q (bK (fG p q)) V J.monic nq (.pmonic _) (by omega) (by omega) (by omega)
theorem bCH{a b:List Rat}{k:Nat}(ha:WD k a)(hb:WD k b)(e':(tr b).length<(tr a).length):WD ((k+1)*3^((tr a).length-1)) (fY a b)/\(fY a b).length<=(tr a).length/\NF (fY a b):=by
 have la:=kU a
 have lb:=kU b
 exact aS2 (by omega) _ _ _ (by rw[la,bJV,bKg,bJn];exact ha.monic) (by rw[la,bJV,bKg,bJn];exact hb.monic) (.pmonic a) (.pmonic b) (bIZ _) (by omega) (by omega)
theorem aYq:bQ PG 34 f34 [2,43,30,33,31,32,27] []=true:=by kernel_rfl
theorem bBF{l:List (Bool×List Nat)}{r:Int}(h:l.length<=7)(d:∀x∈l,bC x.2/\val x.2<2^240/\x.2.length<1000)(_hr: -9223372036854775808<=r/\r<9223372036854775808):VY (m+17) 34 [tF l r]=some (.b (l.all dW&&vz (l.map bZ) r),false):=by
 refine bY rfl func34 aYq rfl ?_
 simp only[f34,N1,bD,bJ,bM,bL,bH,zB,zG]
 have i:(l.map bZ).length=l.length:=bJB _
 have k1:CC (VY (m+16)) 82 [eB l,.fn 83 [] []] (.b (!l.all dW)):=(bGV (m:=m+12) (l:=l) (by omega) (fun x hx=>by have:=(d x hx).2.2;omega)).up (xy _)
 cases G:decide (l.length<2)
 case true=>
  simp (disch:=first|rfl|omega)only[S1,aN,aC,aE,aM,aJ,zB,reduceCtorEq,zD,zG,zH,TF,aT,G]
  refine rb ?_
  unfold vz
  rw[i,decide_eq_false (by have:=of_decide_eq_true G;omega)]
  cases l.all dW<;>rfl
 case false=>
 have h2:2<=l.length:=by have:=of_decide_eq_false G;omega
 cases hG:l.all dW
 case false=>
  rw[hG]at k1
  simp (disch:=first|rfl|omega)only[S1,aN,aC,aE,aM,aJ,zB,reduceCtorEq,zD,zG,zH,TF,aT,G,vJ 82 rfl,k1 _]
 case true=>
 rw[hG]at k1
 rw[bJI]
 have C:∀x∈l,dW x=true:=bJt.1 hG
 have hL:∀x∈l,bC x.2:=fun x hx=>(d x hx).1
 have a':∀z∈l.map bZ,z.natAbs<2^240:=fun z H=>by
  obtain⟨x,hx,rfl⟩:=bJF.1 H
  rw[oY];exact(d x hx).2.1
 have sz:yW (l.map bZ):=⟨by omega,a'⟩
 obtain⟨x,hx⟩:∃x,x=l.getD (l.length-1) (false,[]):=⟨_,rfl⟩
 have hm:x∈l:=by rw[hx];exact tN (by omega)
 have H:=rM (hL x hm) (C x hm)
 have c:(l.map bZ).getD ((l.map bZ).length-1) 0=bZ x:=by rw[i,hx];simp [show l.length-1<l.length by omega]
 have fz:aX 9 (bZ x).natAbs:=by rw[oY];exact bJR (d x hm).2.1 (by decide)
 have c1:=(aBE (m:=m+15) (z:=bZ x) (fz.mono (by decide))).up (xy _)
 cases hB:decide ((bZ x).sign<=0)
 case true=>
  simp (disch:=first|rfl|omega)only[S1,aN,aC,aE,aM,aJ,zB,reduceCtorEq,zD,zG,zH,TF,aT,G,vJ 82 rfl,k1 _,nV,pB,←hx,H,vJ 85 rfl,c1 _,aD4,hB]
  refine rb ?_
  unfold vz
  rw[c,decide_eq_false (p:=0<bZ x) (by have:=of_decide_eq_true hB;have:=Int.sign_nonpos_iff.1 this;omega),bLq];rfl
 case false=>
 have o:0<bZ x:=by
  have h3:=of_decide_eq_false hB
  rcases Int.lt_trichotomy (bZ x) 0 with h4|h4|h4
  ·rw[Int.sign_eq_neg_one_of_neg h4]at h3;omega
  ·rw[h4]at h3;exact absurd (Int.le_refl 0) h3
  ·exact h4
 have g0:=(aCD (m:=m+13) (z:=((0:Nat):Int)) (by decide) (by decide)).up (xy _)
 simp (disch:=first|rfl|omega)only[S1,aN,aC,aE,aM,aJ,zB,reduceCtorEq,zD,zG,zH,TF,TI,aT,G,vJ 82 rfl,k1 _,nV,pB,←hx,H,vJ 85 rfl,c1 _,aD4,hB,vJ 86 rfl,g0 _]
 refine .up (fun j e s=>2<=s.nxt/\s.ob 0=⟨0,[eB l,.int .i64 r]⟩/\(∃g:Int,g=(gz ((l.take j).map bZ):Nat)/\s.ob 1=⟨0,[.b (decide (g<0)),tW (aO g.natAbs)]⟩)/\e 1=some (.po 0 0)/\e 3=some (.po 1 0)/\e 30=some (eB l)/\e 31=some (.int .i64 (l.length:Nat))/\e 32=some (.int .i64 (j:Nat))) l.length ?_ (dC (by omega)) ?_
 ·refine⟨bIK _,rfl,⟨_,rfl,rfl⟩, ?_, ?_, ?_, ?_, ?_⟩<;>simp (disch:=first|rfl|omega)only[S1,zB]
 ·rintro j e s hj ⟨sn,M,⟨g,t,s1⟩,O,P,u,v,A⟩
  have b0:(0==s.nxt)=false:=by rw[beq_eq_false_iff_ne];omega
  have b1:(1==s.nxt)=false:=by rw[beq_eq_false_iff_ne];omega
  have b2:(s.nxt==0)=false:=by rw[beq_eq_false_iff_ne];omega
  have b3:(s.nxt==1)=false:=by rw[beq_eq_false_iff_ne];omega
  have Q:∀z∈(l.take j).map bZ,z.natAbs<2^240:=fun z H=>by
   obtain⟨x,hx,rfl⟩:=bJF.1 H
   rw[oY];exact(d x (bKO hx)).2.1
  have fg:aX 9 g.natAbs:=by rw[t];exact bJR (aTk Q) (by decide)
  by_cases hc:j<l.length
  ·have h1:decide (j<l.length)=true:=decide_eq_true hc
   obtain⟨y,hy⟩:∃y,y=l.getD j (false,[]):=⟨_,rfl⟩
   have D:y∈l:=by rw[hy];exact tN hc
   have b':=rM (hL y D) (C y D)
   have fy:aX 9 (bZ y).natAbs:=by rw[oY];exact bJR (d y D).2.1 (by decide)
   have c2:=(aJI (m:=m+10) (z:=g) (w:=bZ y) (fg.mono (by decide)) (fy.mono (by decide))).up (xy _)
   have et:l.take (j+1)=l.take j++[y]:=by rw[bKA hc,hy];simp [hc]
   simp (disch:=first|rfl|omega)only[S1,aC,aE,aM,aJ,zB,reduceCtorEq,zD,zH,TI,M,s1,O,P,u,v,A,h1,b0,b1,nV,pB,←hy,b',vJ 87 rfl,c2 _]
   refine⟨hc,by omega,⟨_, ?_,rfl⟩⟩
   rw[et,bKh,show [y].map bZ=[bZ y]from rfl,aMI,t]
  ·have h1:decide (j<l.length)=false:=decide_eq_false hc
   obtain rfl:j=l.length:=by omega
   rw[bJy]at t Q
   have W:=(aCD (m:=m+13) (z:=((1:Nat):Int)) (by decide) (by decide)).up (xy _)
   have X:=(aSv (m:=m+12) (z:=g) (w:=((1:Nat):Int)) (fg.mono (by decide)) (aX.one (by decide))).up (xy _)
   cases I:decide ((g-((1:Nat):Int)).sign=0)
   case false=>
    simp (disch:=first|rfl|omega)only[S1,aC,aE,aM,aJ,zB,reduceCtorEq,zD,zH,TI,s1,P,v,A,h1,W _,X _,aBM,I]
    refine rb ?_
    unfold vz
    rw[decide_eq_false (p:=gz (l.map bZ)=1) (fun h=>of_decide_eq_false I (by rw[t,h];rfl)),bLq];rfl
   case true=>
   have R:gz (l.map bZ)=1:=by have:=Int.sign_eq_zero_iff_zero.1 (of_decide_eq_true I);rw[t]at this;omega
   have F:=(aZi (m:=m+6) (l:=l) (by omega) hL (fun x hx=>aX.mono (j:=9) (show val x.2<4294967296^9 from bJR (d x hx).2.1 (by decide)) (by decide)) C).up (xy _)
   obtain⟨zs,c'⟩:∃zs,zs=l.map bZ:=⟨_,rfl⟩
   rw[←c']at c i sz R F ⊢
   have E:2<=zs.length:=by omega
   obtain⟨J,V,Z,w4,w5⟩:=aOk sz E (by rw[c];exact o)
   have f':=xH zs
   have hd:=aBq (dK zs)
   have L:=(aJN (m:=m+6) (l:=dK zs) (J.ps (by decide) (by omega))).up (xy _)
   have r3:=(aPD (m:=m+4) J V (by omega) (by omega) Z w4).up (xy _)
   have S:=aNJ (b:=dU (dK zs)) w5
   obtain⟨q1,q2,q3⟩:=bCH J V Z
   have ta:=fK (dK zs)
   have Y:=(aI4 (m:=m+11) (l:=fY (dK zs) (dU (dK zs))) ((q1.mono w4).ps (by decide) (by omega))).up (xy _)
   rw[q3.eq]at Y
   unfold vz
   rw[decide_eq_true E,c,decide_eq_true o,decide_eq_true R,bJI,bJI,bJI]
   cases T:decide ((fY (dK zs) (dU (dK zs))).length=1)
   case false=>
    simp (disch:=first|rfl|omega)only[S1,aC,aE,aM,aJ,zB,reduceCtorEq,zD,zH,aY,TF,TI,aT,M,s1,O,P,v,A,h1,W _,X _,aBM,I,vJ 89 rfl,F _,L _,r3 _,Y _,aJi,T]
    refine rb ?_
    rw[decide_eq_false (p:=fY (dK zs) (dU (dK zs))=[1]) (fun h=>of_decide_eq_false T (S.2 h)),Bool.false_and];rfl
   case true=>
   have B:=S.1 (of_decide_eq_true T)
   rw[decide_eq_true B,bJI]
   cases hE:decide (0<=r)
   case false=>
    simp (disch:=first|rfl|omega)only[S1,aC,aE,aM,aJ,zB,reduceCtorEq,zD,zH,aY,TF,TI,aT,M,s1,O,P,v,A,h1,W _,X _,aBM,I,vJ 89 rfl,F _,L _,r3 _,Y _,aJi,T,aAd,hE]
   case true=>
   have c3:=bEd (m:=m) (aIn sz E (by rw[c];exact o) B)
   have d':decide ((l.length:Int)<(l.length:Int))=false:=decide_eq_false (Int.lt_irrefl _)
   simp (disch:=first|rfl|omega)only[S1,aC,aE,aM,aJ,zB,reduceCtorEq,zD,zH,aY,TF,TI,aT,M,s1,O,P,v,A,d',W _,X _,aBM,I,vJ 89 rfl,F _,L _,r3 _,Y _,aJi,T,aAd,hE,c3 _,aAn]
theorem bAQ{l:List (Bool×List Nat)}{r:Int}(h:l.length<=7)(d:∀x∈l,bC x.2/\val x.2<2^240/\x.2.length<1000)(hr: -9223372036854775808<=r/\r<9223372036854775808):CC (VY (m+17)) 34 [tF l r] (.b (l.all dW&&vz (l.map bZ) r)):= .of (bFf l r) (bG2 l r) (bBF h d hr)
end
section
open Go Go.RowKit
variable {m:Nat}
def wR:cM:=fun f=>bif Nat.beq f 130 then some (yB yG)else wP f
theorem bGb:lE PG wR:=fun f p h=>by
 unfold wR at h
 cases hf:Nat.beq f 130 with
 |false=>rw[hf]at h;exact aSx f p h
 |true=>
  rw[hf]at h
  cases h
  obtain rfl:=bJ0 hf
  refine⟨⟨_,(by kernel_rfl:PG.funcs[130]? =some f130),by intro h;cases h⟩,aOB bB1⟩
theorem bD5:∀f,cC f=true->wR f=none:=fun f h=>by
 unfold wR
 cases hf:Nat.beq f 130 with
 |false=>exact aQP f h
 |true=>
  obtain rfl:=bJ0 hf
  rw[show cC 130=false from by kernel_rfl]at h;cases h
theorem bDW:∀f,wR f≠none->cC.prim f=true:=fun f h=>by
 unfold wR at h
 cases hf:Nat.beq f 130 with
 |false=>rw[hf]at h;exact aQu f h
 |true=>
  obtain rfl:=bJ0 hf
  kernel_rfl
theorem aVI{l:List (Bool×List Nat)}{r:Int}(h:l.length<=7)(d:∀x∈l,bC x.2/\val x.2<2^240/\x.2.length<1000)(g: -9223372036854775808<=r/\r<9223372036854775808){w:bQ9}(a:fX w){v:bQa}(b:WT w v (tF l r)):
  Calls PG 7 #[v] w fun e w'=>e= .returned (.bool (l.all dW&&vz (l.map bZ) r))/\Below w.heap.size w w':=by
 refine(aA7 (aYu (m:=0) h d g) a (.cons b .nil)).mono ?_
 rintro e w' ⟨v,rfl,c,b⟩
 cases b
 exact⟨rfl,c⟩
theorem aYA{l:List (Bool×List Nat)}{r:Int}(h:l.length<9223372036854775807){w:bQ9}(a:fX w){v:bQa}(b:WT w v (tF l r)):
  Calls PG 6 #[v] w fun e w'=>e= .returned (.bool (l.all (fun x=>decide (x.2.length<=2))&&decide (l.length<=7)))/\Below w.heap.size w w':=by
 refine(aA7 (bE1 (m:=0) h) a (.cons b .nil)).mono ?_
 rintro e w' ⟨v,rfl,c,b⟩
 cases b
 exact⟨rfl,c⟩
end
section
open Go Go.RowKit
def aCm(g:List TV->Option (List TV)):List AV->St->KS->OR:=fun args st k=>match aGq st with
 | true=>match iL (rT nR st) args with
  |some ts=>match (g ts).bind (iL lR)with
   |some aS=>k (.sl st.nxt 0 aS.length (some aS.length) 1) (st.new ⟨aS,true⟩)
   |none=>none
  |none=>none
 |false=>none
def aKB(P:bQe)(f:bQf)(g:List TV->Option (List TV)):Prop:=∀(w:bQ9) (vs:List bQa) (ts L:List TV),fX w->cW w vs ts->g ts=some L->
 ∃(el:TypeId) (xs:List bQa),cW w xs L/\Calls P f vs.toArray w fun e w'=>e= .returned (.slice (some ⟨w.heap.size,0,none⟩) L.length L.length)/\w'=w.alloc (.cells xs.toArray el)
theorem cW.len{w:bQ9}:∀ {vs:List bQa} {ts:List TV},cW w vs ts->vs.length=ts.length
 | [],_,h=>by cases h;rfl
 |_::_,_,h=>by cases h with |cons _ o=>simp [o.len]
theorem bCe{P:bQe}{f:bQf}{g:List TV->Option (List TV)}(h:aKB P f g):aAD P f (aCm g):=fun {args st k r Γ w vs} q hs hc=>by
 unfold aCm at q
 split at q
 ·next C=>
  have u:=aLA hs C
  split at q
  ·next ts x=>
   split at q
   ·next aS A=>
    rw[bIL]at A
    obtain⟨L,h1,h2⟩:=A
    have D:=zY (w:=w) (fun a t v e c=>aEu hs nR a t v e c) x hc
    obtain⟨el,xs,i,d⟩:=h w vs ts L u D h1
    have o:=aIN h2
    have E:=i.len
    intro K G
    refine Calls.mono d ?_
    rintro e w' ⟨rfl,rfl⟩
    have H:=dF.new hs (b:=⟨aS,true⟩) (cs:=xs.toArray) el (by
     rw[List.take_of_length_le (by simp;omega)]
     exact aHH h2 i) (by simp;omega) (fun _=>by simp;omega)
    refine G _ _ _ _ _ q H ?_
    rw[←o]
    refine .sl (p:=w.heap.size) (s:=xs.toArray.size) ?_ (bIK _) (fun k I=>by cases I;rfl) (by simp;omega)
    rw[aP.add_self]
   ·cases q
  ·cases q
 ·cases q
def aE7(g:List TV->Option (List TV))(vs:List TV):Option (TV×Bool):=if vs.all (gV nR)=true then(g (cL vs)).bind fun L=>(iL lR L).map fun _=>(.im 1 L,false)else none
theorem bCl{t:TV}{a:AV}(h:lR t=some a):∀l,mP (a::l)=false:=fun l=>by
 unfold lR at h
 split at h<;>cases h<;>rfl
theorem aLf:∀ {ts:List TV} {aS:List AV},iL lR ts=some aS->dR ts=true
 | [],_,_=>rfl
 |t::ts,aS,e=>by
  obtain⟨b,J,rfl,h1,h2⟩:=aA4 e
  simp only[dR,aHu h1,aLf h2,bJv]
theorem aYL{P:bQe}{pr:cM}{f:bQf}{g:List TV->Option (List TV)}(M:pr f=some (aCm g)){vs:List TV}{R:TV}{own:Bool}(h:aE7 g vs=some (R,own)):jT P pr f vs R own:=by
 unfold aE7 at h
 split at h
 ·next y=>
  simp only[bIL,bIM]at h
  obtain⟨L,h1,aS,h2,N⟩:=h
  cases N
  intro st vas F O Q S j T B m
  have o:=aIN h2
  have z:mP aS=false:=by
   cases aS with
   |nil=>rfl
   | cons a l=>
    cases L with
    |nil=>cases h2
    |cons t ts=>
     obtain⟨b,J,e,g1, -⟩:=aA4 h2
     cases e
     exact bCl g1 _
  refine⟨.sl st.nxt 0 aS.length (some aS.length) 1,st.new ⟨aS,true⟩,fun id=>F id\/id=st.nxt,⟨?_, ?_,fun _ h=> .inl h,fun id h=>h.imp (fun h=>h) fun e=> ?_,fun id U=>uR st _ U,rfl,rfl, ?_,fun h=>by cases h⟩,0,fun n _ k=> ?_⟩
  ·refine .im (blk:=⟨aS,true⟩) (.inr rfl) ⟨Tr.put_same _ _ _,z⟩ (by simp) ?_
   simp only[List.drop_zero,bJn,bJy]
   exact aHP h2
  ·simpa only[cI]using aLf h2
  ·rw[e];exact⟨bIK _,by rw[mB];exact bIZ _⟩
  ·rw[mB];exact Nat.le_succ _
  have V:=aA5 (aEy (st:=st) (F:=F) j nR) Q y
  show(Option.rec (motive:=fun _=>IH->List AV->St->KS->OR) (wS P (P.funcs[f]?)) (fun p _=>p) (pr f)) _ vas st k=_
  rw[M]
  show aCm g vas st k=_
  unfold aCm
  rw[aOh m]
  simp only[V,h1,bIS,h2]
 ·cases h
end
end Go.Proofs.YtmjoaipkaddkbaaGreatDoor.Ev
namespace Go.Proofs.YtmjoaipkaddkbaaGreatDoor
section
theorem aO3{c:UInt8}{t l:List UInt8}(h:∀b∈l,b≠c):Lib.index l (c::t)= -1:=Lib.index_none fun j _=>by
 cases d:Lib.occAt l (c::t) j with
 |false=>rfl
 |true=>
  have h1:=Lib.occAt_head rfl d
  exact absurd rfl (h c (bM9 h1))
theorem aIo{c:UInt8}{t l r:List UInt8}(h:∀b∈l,b≠c):Lib.index (l++((c::t)++r)) (c::t)=l.length:=by
 refine Lib.index_first (by simp) ?_ fun j m=> ?_
 ·unfold Lib.occAt
  rw[bLY]
  rw[List.isPrefixOf_iff_prefix]
  exact List.prefix_append _ _
 ·cases d:Lib.occAt (l++((c::t)++r)) (c::t) j with
  |false=>rfl
  |true=>
   have h1:=Lib.occAt_head rfl d
   rw[List.getElem?_append_left m]at h1
   exact absurd rfl (h c (bM9 h1))
theorem bG6{c:UInt8}{t l r:List UInt8}(h:∀b∈l,b≠c):Lib.cut (l++((c::t)++r)) (c::t)=(l,r,true):=by
 unfold Lib.cut
 rw[aIo h,if_pos (Int.natCast_nonneg _),bKe,List.take_left,←bKp,show l.length+(c::t).length=(l++(c::t)).length by rw[bJ3],bLY]
theorem aHo(p s:List UInt8):Lib.hasPrefix (p++s) p=true:=by
 unfold Lib.hasPrefix
 rw[List.isPrefixOf_iff_prefix]
 exact List.prefix_append _ _
theorem aL8(p s:List UInt8):Lib.trimPrefix (p++s) p=s:=by
 unfold Lib.trimPrefix
 rw[aHo,if_pos rfl,bLY]
def dT(c:UInt8):List (List UInt8)->List UInt8
 | []=>[]
 | [w]=>w
 |w::v::ws=>w++c::dT c (v::ws)
theorem aLO{c:UInt8}:∀(ws:List (List UInt8)) (w:List UInt8) (f:Nat),(∀v∈w::ws,∀b∈v,b≠c)->ws.length<f->Lib.countFrom [c] f (dT c (w::ws))=ws.length
 | [],w,f,h,hf=>by
  obtain⟨g,rfl⟩:∃g,f=g+1:=⟨f-1,by simp at hf;omega⟩
  unfold Lib.countFrom dT
  rw[aO3 (h w bJS)];rfl
 |v::ws,w,f,h,hf=>by
  simp only[bIV]at hf ⊢
  obtain⟨g,rfl⟩:∃g,f=g+1:=⟨f-1,by omega⟩
  unfold Lib.countFrom dT
  have e:Lib.index (w++c::dT c (v::ws)) [c]=w.length:=aIo (t:=[]) (r:=dT c (v::ws)) (h w bJS)
  rw[e]
  have a:((w.length:Int)== -1)=false:=by rw[beq_eq_false_iff_ne];omega
  rw[a,if_neg (by decide),bKe]
  rw[show w++c::dT c (v::ws)=(w++[c])++dT c (v::ws) by simp,show w.length+ [c].length=(w++[c]).length by simp,bLY]
  rw[aLO ws v g (fun u i=>h u (bJY _ i)) (by omega)]
  omega
theorem aNr{c:UInt8}:∀(ws:List (List UInt8)) (w:List UInt8),ws.length<=(dT c (w::ws)).length
 | [],_=>bIR _
 |v::ws,w=>by
  unfold dT
  have:=aNr (c:=c) ws v
  simp only[bJ3,bIV]
  omega
theorem aZe{c:UInt8}{ws:List (List UInt8)}{w:List UInt8}(h:∀v∈w::ws,∀b∈v,b≠c):Lib.count (dT c (w::ws)) [c]=ws.length:=
 aLO ws w _ h (Nat.lt_succ_of_le (aNr ws w))
theorem aLW{c:UInt8}:∀(ws:List (List UInt8)) (w:List UInt8) (k:Nat),(∀v∈w::ws,∀b∈v,b≠c)->ws.length<=k->Lib.splitK [c] 0 k (dT c (w::ws))=w::ws
 | [],w,k,h,_=>by
  cases k with
  |zero=>rfl
  |succ k=>
   unfold Lib.splitK dT
   rw[aO3 (h w bJS)];rfl
 |v::ws,w,k,h,n=>by
  simp only[bIV]at n
  obtain⟨g,rfl⟩:∃g,k=g+1:=⟨k-1,by omega⟩
  unfold Lib.splitK dT
  have e:Lib.index (w++c::dT c (v::ws)) [c]=w.length:=aIo (t:=[]) (r:=dT c (v::ws)) (h w bJS)
  rw[e]
  have a:((w.length:Int)== -1)=false:=by rw[beq_eq_false_iff_ne];omega
  rw[a,if_neg (by decide),bKe]
  rw[show w++c::dT c (v::ws)=(w++[c])++dT c (v::ws) by simp,show w.length+ [c].length=(w++[c]).length by simp,bLY,aLW ws v g (fun u i=>h u (bJY _ i)) (by omega)]
  simp
end
end Go.Proofs.YtmjoaipkaddkbaaGreatDoor