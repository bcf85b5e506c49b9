/- Part of a proof. -/
import Derived.Test.YtmjoaipkaddkbaaGreatDoorP05
noncomputable section
open Nat renaming reduceBEq → zB, reduceEqDiff → zC, reduceAdd → zD, reduceMul → zE, reduceSub → zF, reduceLT → zG, reduceLeDiff → zH
open Bool renaming false_eq_true→bIY
open Int renaming lt_or_gt_of_ne→bMs,mul_neg→bL6,natCast_add→bLo,natCast_mul→bKb
open List renaming append_nil→bK3,drop_append→bMf,drop_of_length_le→bKW,drop_zero→bJd,eq_nil_of_length_eq_zero→bJA,getD_eq_getElem?_getD→bJb,length→bKn,length_append→bJ3,length_cons→bIV,length_nil→bJm,length_pos_iff→bJK,length_replicate→bJz,length_set→bJX,length_take→bIW,nil_append→bJO,replicate→bIQ,take_append_of_le_length→bM8,take_of_length_le→bJ2
open Nat renaming add_sub_cancel→bJw,div_add_mod→bK4,div_eq_of_lt→bKs,div_le_self→bKc,gcd_zero_right→bMn,le_mul_of_pos_right→bLh,le_of_lt→bJg,le_refl→bIK,le_succ→bKq,le_trans→bIO,lt_irrefl→bJq,lt_of_le_of_lt→bJe,lt_of_lt_of_le→bIP,lt_succ_self→bIZ,min_eq_left→bJc,mod_eq_of_lt→bJo,mod_lt→bJa,mul_le_mul_left→bJ7,not_lt_zero→bJQ,pow_le_pow_right→bJ9,pow_zero→bKg,sub_self→bJV,sub_zero→bLz,zero_add→bJl,zero_le→bIR,zero_lt_one→bKX,zero_mul→bJU
open Option renaming bind_some→bIS,map_some→bJk
set_option maxRecDepth 10000000
open Go
open Go.Proofs.Tryz
namespace Go.Proofs.YtmjoaipkaddkbaaGreatDoor.Ev
section
variable {m:Nat}
theorem aXS{a b:Nat}(h:0<b)(w:(aO a).length<=2000000)(g:(aO b).length<=2000000):VX (m+4) 177 [tW (aO a),tW (aO b)]=some (.tp [tW (aO (a/b)),tW (aO (a%b))],false):=by
 obtain⟨n,hn⟩:∃n,(aO a).length=n:=⟨_,rfl⟩
 by_cases c:a<b
 ·have d:=aBe (m:=m) (a:=a) (b:=b) (by omega)
  rw[if_pos c]at d
  have hc:=aFd (m:=m+2) (xs:=aO a) (by omega)
  refine bY rfl func177 aEC rfl ?_
  simp only[f177,N1,bD,bJ,bM,bL,bH,zB,zG]
  simp (disch:=first|rfl|omega)only[S1,aC,aE,aM,aJ,zB,reduceCtorEq,zD,vJ 180 rfl,d _,aEF,vJ 93 rfl,hc _]
  rw[aPZ,bKs c,bJo c,gW]
 by_cases i:2<n
 ·by_cases f:(aO b).length=1
  ·have d:=aBe (m:=m) (a:=a) (b:=b) (by omega)
   rw[if_neg c]at d
   obtain⟨r,j⟩:∃r:Nat,(if b<a then(1:Int)else 0)=(r:Int):=by
    split
    ·exact⟨1,rfl⟩
    ·exact⟨0,rfl⟩
   rw[j]at d
   have vb:=iY (cV b)
   rw[cO,f]at vb
   have o:(aO b).getD 0 0=b:=by
    have:=cO b
    cases y:aO b with
    |nil=>rw[y]at f;cases f
    |cons x l=>
     rw[y]at this f
     simp only[bIV,Nat.add_eq_right,List.length_eq_zero_iff]at f
     subst f
     simpa [val]using this
   have z:=bEK (m:=m) (xs:=aO a) (n:=b) (by omega) (cV a) h (by omega)
   rw[cO]at z
   have g1:decide (n<=2)=false:=decide_eq_false (by omega)
   refine bY rfl func177 aEC rfl ?_
   simp only[f177,N1,bD,bJ,bM,bL,bH,zB,zG]
   simp (disch:=first|rfl|omega)only[S1,aN,aC,aE,aM,aJ,zB,reduceCtorEq,zD,vJ 180 rfl,d _,bJQ,hn,f,g1,o,vJ 244 rfl,z _,aDi]
  ·have h0:(aO b).length≠0:=fun e=>by
    have:=sE.1 (bJA e)
    omega
   obtain⟨p,A⟩:∃p,(aO b).length=p+2:=⟨(aO b).length-2,by omega⟩
   exact bCo c i hn A (by omega)
 ·have d:=aBe (m:=m) (a:=a) (b:=b) (by omega)
  rw[if_neg c]at d
  obtain⟨r,j⟩:∃r:Nat,(if b<a then(1:Int)else 0)=(r:Int):=by
   split
   ·exact⟨1,rfl⟩
   ·exact⟨0,rfl⟩
  rw[j]at d
  have q:(aO b).length<=2:=by have:=oO (Nat.le_of_not_lt c);omega
  have va:=iY (cV a)
  rw[cO]at va
  have va2:a<18446744073709551616:=bIP va (bJ9 (n:=4294967296) (by decide) (show(aO a).length<=2 by omega))
  have s:=aEL (m:=m+2) (k:=a) (by omega)
  have t:=aEL (m:=m+2) (k:=b) q
  have vb2:b<18446744073709551616:=by omega
  have u:=aCC (m:=m+1) (n:=a/b) (bJe (bKc _ _) va2)
  have v:=aCC (m:=m+1) (n:=a%b) (bJe (Nat.mod_le _ _) va2)
  have g1:decide (n<=2)=true:=decide_eq_true (by omega)
  refine bY rfl func177 aEC rfl ?_
  simp only[f177,N1,bD,bJ,bM,bL,bH,zB,zG]
  simp (disch:=first|rfl|omega)only[S1,aN,aC,aE,aM,aJ,zB,reduceCtorEq,zD,vJ 180 rfl,d _,bJQ,hn,g1,vJ 178 rfl,s _,t _,u _,v _,aDi]
theorem aMw{a b:Nat}(h:0<b)(w:(aO a).length<=2000000)(g:(aO b).length<=2000000):CC (VX (m+4)) 177 [tW (aO a),tW (aO b)] (.tp [tW (aO (a/b)),tW (aO (a%b))]):= .of (vB _ _) (by simp only[bW,fJ];decide) (aXS h w g)
end
end Go.Proofs.YtmjoaipkaddkbaaGreatDoor.Ev
namespace Go.Proofs.YtmjoaipkaddkbaaGreatDoor
section
theorem bBK{z w:Int}(c:w≠0)(h:decide (z<0)=decide (w<0)):z.fdiv w=((z.natAbs/w.natAbs:Nat):Int)/\z.fmod w=(if w<0 then-((z.natAbs%w.natAbs:Nat):Int)else((z.natAbs%w.natAbs:Nat):Int)):=by
 have e:=bK4 z.natAbs w.natAbs
 have v:=bJa z.natAbs (show 0<w.natAbs by omega)
 generalize z.natAbs/w.natAbs=q at*
 generalize z.natAbs%w.natAbs=r at*
 have g:(w.natAbs:Int)*(q:Int)+(r:Int)=(z.natAbs:Int):=by rw[←bKb,←bLo,e]
 rw[decide_eq_decide]at h
 rcases bMs c with h1|h1
 ·rw[if_pos h1]
  refine(Int.fdiv_fmod_unique' h1).2 ⟨?_, ?_, ?_⟩
  ·rw[show(w.natAbs:Int)= -w by omega,show(z.natAbs:Int)= -z by omega,Int.neg_mul]at g
   omega
  ·omega
  ·omega
 ·rw[if_neg (by omega)]
  refine(Int.fdiv_fmod_unique h1).2 ⟨?_, ?_, ?_⟩
  ·rw[show(w.natAbs:Int)=w by omega,show(z.natAbs:Int)=z by omega]at g
   omega
  ·omega
  ·omega
theorem bBg{z w:Int}(c:w≠0)(h:decide (z<0)≠decide (w<0)):(z.natAbs%w.natAbs=0->z.fdiv w= -((z.natAbs/w.natAbs:Nat):Int)/\z.fmod w=0)/\(z.natAbs%w.natAbs≠0->z.fdiv w= -((z.natAbs/w.natAbs+1:Nat):Int)/\z.fmod w=(if w<0 then-((w.natAbs-z.natAbs%w.natAbs:Nat):Int)else((w.natAbs-z.natAbs%w.natAbs:Nat):Int))):=by
 have e:=bK4 z.natAbs w.natAbs
 have v:=bJa z.natAbs (show 0<w.natAbs by omega)
 generalize z.natAbs/w.natAbs=q at*
 generalize z.natAbs%w.natAbs=r at*
 have g:(w.natAbs:Int)*(q:Int)+(r:Int)=(z.natAbs:Int):=by rw[←bKb,←bLo,e]
 rw[ne_eq,decide_eq_decide]at h
 rcases bMs c with h1|h1
 ·have i:¬z<0:=fun i=>h ⟨fun _=>h1,fun _=>i⟩
  rw[show(w.natAbs:Int)= -w by omega,show(z.natAbs:Int)=z by omega,Int.neg_mul]at g
  refine⟨fun h0=>(Int.fdiv_fmod_unique' h1).2 ⟨?_,by omega,by omega⟩,fun h0=> ?_⟩
  ·subst h0;rw[bL6];omega
  ·rw[if_pos h1]
   refine(Int.fdiv_fmod_unique' h1).2 ⟨?_,by omega,by omega⟩
   rw[bL6,bLo,Int.mul_add,Int.natCast_one,Int.mul_one];omega
 ·have i:z<0:=by
   by_cases i:z<0
   ·exact i
   ·exact absurd ⟨fun x=>by omega,fun y=>by omega⟩ h
  rw[show(w.natAbs:Int)=w by omega,show(z.natAbs:Int)= -z by omega]at g
  refine⟨fun h0=>(Int.fdiv_fmod_unique h1).2 ⟨?_,by omega,by omega⟩,fun h0=> ?_⟩
  ·subst h0;rw[bL6];omega
  ·rw[if_neg (by omega)]
   refine(Int.fdiv_fmod_unique h1).2 ⟨?_,by omega,by omega⟩
   rw[bL6,bLo,Int.mul_add,Int.natCast_one,Int.mul_one];omega
end
end Go.Proofs.YtmjoaipkaddkbaaGreatDoor
namespace Go.Proofs.YtmjoaipkaddkbaaGreatDoor.Ev
section
variable {m:Nat}
theorem bIp(k:Nat):sg false k=k:=rfl
theorem aTF(k:Nat):sg true k= -(k:Int):=rfl
theorem aKl(w:Int)(k:Nat):sg (decide (w<0)) k=if w<0 then-(k:Int)else k:=by
 by_cases h:w<0
 ·rw[decide_eq_true h,if_pos h];rfl
 ·rw[decide_eq_false h,if_neg h];rfl
theorem aEx:aO 1=[1]:=by rw[aO];simp [gW]
theorem aWs:bQ PG 135 f135 [6,5,4,35] []=true:=by kernel_rfl
theorem aND{z w:Int}(h:aX 900000 z.natAbs)(h':aX 900000 w.natAbs)(c:w≠0):VX (m+6) 135 [tI z,tI w]=some (.tp [tI (z.fdiv w),tI (z.fmod w),.int .i64 ((0:Nat):Int)],false):=by
 have C:=h.len
 have l2:=h'.len
 have t1:=oT (m:=m+4) (xs:=aO z.natAbs) (by omega)
 have t2:=oT (m:=m+4) (xs:=aO w.natAbs) (by omega)
 rw[kH]at t1 t2
 have l:0<w.natAbs:=by omega
 have o:=aMw (m:=m+1) (a:=z.natAbs) (b:=w.natAbs) l (by omega) (by omega)
 have fq:aX 900000 (z.natAbs/w.natAbs):=h.le (bKc _ _)
 have fr:aX 900000 (z.natAbs%w.natAbs):=h'.le (bJg (bJa _ l))
 have p:decide ((aO w.natAbs).length=0)=false:=decide_eq_false fun e=>by have:=sE.1 (bJA e);omega
 refine bY rfl func135 aWs rfl ?_
 simp only[f135,N1,bD,bJ,bM,bL,bH,zB,zG]
 cases j:(decide (z<0)==decide (w<0))
 ·have f:decide (z<0)≠decide (w<0):=by simpa using j
  obtain⟨f1,f2⟩:=bBg c f
  by_cases h0:z.natAbs%w.natAbs=0
  ·obtain⟨g1,g2⟩:=f1 h0
   have s1:=nU (m:=m+3) (n:=true) (k:=z.natAbs/w.natAbs) (bJe fq.len (by decide))
   have d:=nU (m:=m+3) (n:=decide (w<0)) (k:=z.natAbs%w.natAbs) (bJe fr.len (by decide))
   rw[aTF,←g1]at s1
   rw[aKl,show(if w<0 then-((z.natAbs%w.natAbs:Nat):Int)else((z.natAbs%w.natAbs:Nat):Int))=z.fmod w by rw[g2,h0];simp]at d
   have hB:decide (0<(aO (z.natAbs%w.natAbs)).length)=false:=decide_eq_false fun e=>zW.1 e h0
   simp (disch:=first|rfl|omega)only[S1,aN,aC,aE,aM,aJ,zB,reduceCtorEq,zD,zG,zH,TI,aT,aAp,kH,p,vJ 177 rfl,o _,vZ,aBD,j,hB,s1 _,d _,aCX]
  ·obtain⟨g1,g2⟩:=f2 h0
   have A:=aPF (m:=m+3) (a:=z.natAbs/w.natAbs) (b:=1) (bJe fq.len (by decide)) (by rw[aEx];decide)
   rw[aEx]at A
   have t:∀(s:VS) (k:Nat),k=s.nxt->fD (VX (m+5)) 215 [tW (aO (z.natAbs/w.natAbs)),.ow k 0 1 1] (s.new [.int .u32 ((1:Nat):Int)])=some (tW (aO (z.natAbs/w.natAbs+1)),s.new [.int .u32 ((1:Nat):Int)]):=fun s k B=>by
    subst B
    refine aOQ (zs:=[1]) (off:=0) (len:=1) ?_ (bIZ _) (by rw[iP,beq_self_eq_true];rfl) (by decide) (by decide)
    rw[show([1].drop 0).take 1=aO 1 by rw[aEx];rfl,aQT (m:=m+3) (bJe fq.len (by decide)) (by rw[aEx];decide)]
    exact .fr
   have fq1:aX 900001 (z.natAbs/w.natAbs+1):=fq.add (aX.one (by decide))
   have u:=aIG (m:=m+3) (xs:=aO w.natAbs) (ys:=aO (z.natAbs%w.natAbs)) (by omega) (oO (bJg (bJa _ l))) (cV _) (cV _) (by rw[cO,cO];exact bJg (bJa _ l))
   rw[cO,cO]at u
   have s1:=nU (m:=m+3) (n:=true) (k:=z.natAbs/w.natAbs+1) (bJe fq1.len (by decide))
   have d:=nU (m:=m+3) (n:=decide (w<0)) (k:=w.natAbs-z.natAbs%w.natAbs) (bJe (h'.le (Nat.sub_le _ _)).len (by decide))
   rw[aTF,←g1]at s1
   rw[aKl,←g2]at d
   have hB:decide (0<(aO (z.natAbs%w.natAbs)).length)=true:=decide_eq_true (zW.2 h0)
   simp (disch:=first|rfl|omega)only[S1,aN,aC,aE,aM,aJ,aD,zB,reduceCtorEq,zD,zE,zG,zH,TI,aT,aAp,kH,p,vJ 177 rfl,o _,vZ,aBD,j,hB,aCj,vJ 215 rfl,t ((((eA.new [.b (decide (z<0)),tW (aO z.natAbs)]).new [.b (decide (w<0)),tW (aO w.natAbs)]).new [.b false,.nil]).new [.b false,.nil]) 4 rfl,vJ 216 rfl,u _,s1 _,d _,aCX]
 ·have f:decide (z<0)=decide (w<0):=by simpa using j
  obtain⟨g1,g2⟩:=bBK c f
  have s1:=nU (m:=m+3) (n:=false) (k:=z.natAbs/w.natAbs) (bJe fq.len (by decide))
  have d:=nU (m:=m+3) (n:=decide (w<0)) (k:=z.natAbs%w.natAbs) (bJe fr.len (by decide))
  rw[bIp,←g1]at s1
  rw[aKl,←g2]at d
  simp (disch:=first|rfl|omega)only[S1,aN,aC,aE,aM,aJ,zB,reduceCtorEq,zD,zG,zH,TI,aT,aAp,kH,p,vJ 177 rfl,o _,vZ,aBD,j,s1 _,d _,aCX]
theorem aYS{z w:Int}(h:aX 900000 z.natAbs)(h':aX 900000 w.natAbs)(c:w≠0):CC (VX (m+6)) 135 [tI z,tI w] (.tp [tI (z.fdiv w),tI (z.fmod w),.int .i64 ((0:Nat):Int)]):= .of (mG z w) (mF z w) (aND h h' c)
end
section
variable {m:Nat}
theorem bCp:bQ PG 87 f87 [4,49,40,29] []=true:=by kernel_rfl
theorem aRL{z w:Int}(h:aX 150000 z.natAbs)(h':aX 150000 w.natAbs):VX (m+6) 87 [tI z,tI w]=some (tI (Int.gcd z w:Nat),false):=by
 have H:=h.len
 have l2:=h'.len
 refine bY rfl func87 bCp rfl ?_
 simp only[f87,N1,bD,bJ,bM,bL,bH,zB,zG]
 have t1:=oT (m:=m+4) (xs:=aO z.natAbs) (by omega)
 have t2:=oT (m:=m+4) (xs:=aO w.natAbs) (by omega)
 rw[kH]at t1 t2
 simp (disch:=first|rfl|omega)only[S1,zB,reduceCtorEq,zD,zG,zH,TI,aT,(t1 _).1,(t2 _).1]
 refine .loop (fun n e s=>s.nxt=3/\s.ob 2=⟨0,[.b false,.nil]⟩/\e 4=some (.po 2 0)/\∃x y,e 5=some (tW (aO x))/\e 6=some (tW (aO y))/\aX 150000 x/\aX 150000 y/\Nat.gcd x y=Int.gcd z w/\n=oC x y) (oC z.natAbs w.natAbs) ?_ (dC ?_) ?_
 ·refine⟨rfl,rfl, ?_⟩
  simp (disch:=first|rfl|omega)only[S1,zB]
  exact⟨_,_,rfl,rfl,h,h',rfl,rfl⟩
 ·have I:=aF7 h
  have J:=aF7 h'
  unfold oC
  split<;>omega
 ·rintro n e s ⟨sn,so,f,x,y,j,o,fx,fy,g,rfl⟩
  have lx:=fx.len
  have ly:=fy.len
  obtain⟨k,q⟩:∃k,(aO x).length=k:=⟨_,rfl⟩
  obtain⟨l,p⟩:∃l,(aO y).length=l:=⟨_,rfl⟩
  have c:l≠0↔y≠0:=by
   have h1:=zW (k:=y)
   rw[p]at h1
   exact⟨fun e=>h1.1 (by omega),fun e=>by have:=h1.2 e;omega⟩
  have hgo:(decide (2<l)=true\/decide (2<l)=false/\decide (2<k)=true/\decide (0<l)=true)\/(decide (2<l)=false/\decide (2<k)=true/\decide (0<l)=false)\/(decide (2<l)=false/\decide (2<k)=false):=by
   by_cases h1:2<l<;>by_cases h2:2<k<;>by_cases i:0<l<;>simp [h1,h2,i]
  rcases hgo with hgo|hgo
  ·have d:0<y:=by
    rcases hgo with h1|⟨_,_,i⟩
    ·have:=of_decide_eq_true h1;have:=c.1 (by omega);omega
    ·have:=of_decide_eq_true i;have:=c.1 (by omega);omega
   have C:=aMw (m:=m+1) (a:=x) (b:=y) d (by omega) (by omega)
   have step:=aMW (x:=x) d
   have fin:(∃x_1 y_1,tW (aO y)=tW (aO x_1)/\tW (aO (x%y))=tW (aO y_1)/\aX 150000 x_1/\aX 150000 y_1/\x_1.gcd y_1=z.gcd w/\oC y (x%y)=oC x_1 y_1):=⟨_,_,rfl,rfl,fy,fy.le (bJg (bJa _ d)),(aIH x y).trans g,rfl⟩
   rcases hgo with h1|⟨h1,h2,i⟩
   ·simp (disch:=first|rfl|omega)only[S1,aN,aC,aE,aM,aJ,zB,f,j,o,sn,so,p,h1,vJ 177 rfl,C _]
    exact⟨oC y (x%y),step,fin⟩
   ·simp (disch:=first|rfl|omega)only[S1,aN,aC,aE,aM,aJ,zB,f,j,o,sn,so,q,p,h1,h2,i,vJ 177 rfl,C _]
    exact⟨oC y (x%y),step,fin⟩
  ·have hs:=nU (m:=m+3) (n:=false) (k:=Int.gcd z w) (bJe (aX.len (k:=150000) (by
    rw[←g]
    by_cases d:y=0
    ·rw[d,bMn];exact fx
    ·exact fy.le (Nat.gcd_le_right _ (by omega)))) (by decide))
   rw[show sg false (Int.gcd z w)=((Int.gcd z w:Nat):Int)from rfl]at hs
   by_cases d:y=0
   ·have h0:decide (l=0)=true:=decide_eq_true (by by_cases h:l=0;exact h;exact absurd d (c.1 h))
    rw[d,bMn]at g
    rw[←g]at hs ⊢
    have hc:=aFd (m:=m+4) (xs:=aO x) (by omega)
    rcases hgo with ⟨h1,h2,i⟩|⟨h1,h2⟩
    ·simp (disch:=first|rfl|omega)only[S1,aN,aC,aE,aM,aJ,zB,reduceCtorEq,zD,zG,zH,f,j,o,sn,so,q,p,h1,h2,i,h0,TI,vJ 93 rfl,hc _,vJ 79 rfl,hs _]
    ·simp (disch:=first|rfl|omega)only[S1,aN,aC,aE,aM,aJ,zB,reduceCtorEq,zD,zG,zH,f,j,o,sn,so,q,p,h1,h2,h0,TI,vJ 93 rfl,hc _,vJ 79 rfl,hs _]
   ·rcases hgo with ⟨h1,h2,i⟩|⟨h1,h2⟩
    ·exact absurd (c.2 d) (by have:=of_decide_eq_false i;omega)
    have h0:decide (l=0)=false:=decide_eq_false (c.2 d)
    have k2:(aO x).length<=2:=by have:=of_decide_eq_false h2;omega
    have r:(aO y).length<=2:=by have:=of_decide_eq_false h1;omega
    have E:=aEL (m:=m+4) (k:=x) k2
    have F:=aEL (m:=m+4) (k:=y) r
    have t:∀ {u:Nat},(aO u).length<=2->u<18446744073709551616:=fun {u} h=>by
     have vu:=iY (cV u)
     rw[cO]at vu
     exact bIP vu (bJ9 (n:=4294967296) (by decide) h)
    have bx:=t k2
    have by':=t r
    simp (disch:=first|rfl|omega)only[S1,aN,aC,aE,aM,aJ,zB,reduceCtorEq,zD,zG,zH,f,j,o,sn,so,q,p,h1,h2,h0,vJ 178 rfl,E _,F _]
    refine .loop (fun n e s=>s.nxt=3/\s.ob 2=⟨0,[.b false,.nil]⟩/\e 4=some (.po 2 0)/\∃u v:Nat,e 9=some (.int .u64 (u:Nat))/\e 10=some (.int .u64 (v:Nat))/\u<18446744073709551616/\v<18446744073709551616/\Nat.gcd u v=Int.gcd z w/\n=v) y ?_ (by exact by') ?_
    ·refine⟨sn,so, ?_⟩
     simp (disch:=first|rfl|omega)only[S1,zB,f]
     exact⟨_,_,rfl,rfl,bx,by',g,rfl⟩
    ·rintro n e s ⟨sn,so,f,u,v,D,A,bu,bv,g,rfl⟩
     cases B:decide (n=0)
     ·have v0:=of_decide_eq_false B
      have G:=bJa u (show 0<n by omega)
      simp (disch:=first|rfl|omega)only[S1,aC,aE,aM,aJ,zB,f,D,A,sn,so,B]
      exact⟨u%n,G,_,_,rfl,rfl,bv,by omega,(aIH u n).trans g,rfl⟩
     ·have v0:=of_decide_eq_true B
      rw[v0,bMn]at g
      have hf:=aCC (m:=m+3) (n:=u) bu
      rw[←g]at hs ⊢
      simp (disch:=first|rfl|omega)only[S1,aC,aE,aM,aJ,zB,reduceCtorEq,zD,zG,zH,f,D,A,sn,so,B,TI,vJ 176 rfl,hf _,vJ 79 rfl,hs _]
theorem aJI{z w:Int}(h:aX 150000 z.natAbs)(h':aX 150000 w.natAbs):CC (VX (m+6)) 87 [tI z,tI w] (tI (Int.gcd z w:Nat)):= .of (mG z w) (mF z w) (aRL h h')
end
section
variable {m:Nat}
theorem bBx:PG.funcs[280]? =some f280:=by kernel_rfl
theorem bB3:bQ PG 280 f280 [4] []=true:=by kernel_rfl
theorem bFE{z w:Int}(h:aX 900000 z.natAbs)(h':aX 900000 w.natAbs)(c:w≠0):VX (m+7) 280 [tI z,tI w]=some (tI (z.fdiv w),false):=by
 have c1:=aBv (m:=m+5) (z:=w)
 have c2:=aYS (m:=m) h h' c
 refine bY rfl bBx bB3 rfl ?_
 simp only[f280,N1,bD,bJ,bM,bL,bH,zB,zG]
 simp (disch:=first|rfl|omega)only[S1,zB,reduceCtorEq,zD,zG,zH,TI,vJ 206 rfl,c1 _]
 refine cJ (fun e=> ?_) (fun e=> ?_)
 ·have:w=1:=of_decide_eq_true e
  subst this
  simp (disch:=first|rfl|omega)only[S1,zB,reduceCtorEq,zD,zG,zH,TI]
  rw[Int.fdiv_one]
 ·simp (disch:=first|rfl|omega)only[S1,zB,reduceCtorEq,zD,zG,zH,TI,vJ 135 rfl,c2 _]
theorem aSH{z w:Int}(h:aX 900000 z.natAbs)(h':aX 900000 w.natAbs)(c:w≠0):CC (VX (m+7)) 280 [tI z,tI w] (tI (z.fdiv w)):= .of (mG z w) (mF z w) (bFE h h' c)
theorem aYE:bQ PG 223 f223 [4] []=true:=by kernel_rfl
theorem bBr{z w:Int}(h:aX 150000 z.natAbs)(h':aX 150000 w.natAbs)(c:w≠0):VX (m+8) 223 [tI z,tI w]=some (tR (Rat.divInt z w),false):=by
 have c1:=aJI (m:=m+1) h h'
 have fg:aX 150000 (Int.gcd z w):=h'.le (Nat.le_of_dvd (by omega) (Int.ofNat_dvd_left.1 (Int.gcd_dvd_right z w)))
 have c2:=aRq (m:=m+4) (z:=((Int.gcd z w:Nat):Int)) (fg.mono (by decide))
 have r:=bCE (a:=z) c
 have fl:aX 150000 (oD z w).natAbs:=by unfold oD;split<;>simpa using fg
 have l:=aSH (m:=m) (z:=z) (w:=oD z w) (h.mono (by decide)) (fl.mono (by decide)) r
 have n:=aSH (m:=m) (z:=w) (w:=oD z w) (h'.mono (by decide)) (fl.mono (by decide)) r
 rw[bCr c]at l
 rw[bEE c]at n
 refine bY rfl func223 aYE rfl ?_
 simp only[f223,N1,bD,bJ,bM,bL,bH,zB,zG]
 simp (disch:=first|rfl|omega)only[S1,zB,reduceCtorEq,zD,zG,zH,TI,aT,vJ 87 rfl,c1 _]
 refine cJ (fun e=> ?_) (fun e=> ?_)
 ·have e0:=of_decide_eq_true e
  rw[show oD z w= -((Int.gcd z w:Nat):Int) by unfold oD;rw[if_pos e0]]at l n
  simp (disch:=first|rfl|omega)only[S1,aD,zB,reduceCtorEq,zD,zG,zH,TQ,vJ 275 rfl,c2 _,l _,n _]
 ·have e0:=of_decide_eq_false e
  rw[show oD z w=((Int.gcd z w:Nat):Int) by unfold oD;rw[if_neg e0]]at l n
  simp (disch:=first|rfl|omega)only[S1,aD,zB,reduceCtorEq,zD,zG,zH,TQ,l _,n _]
theorem aF6{z w:Int}(h:aX 150000 z.natAbs)(h':aX 150000 w.natAbs)(c:w≠0):CC (VX (m+8)) 223 [tI z,tI w] (tR (Rat.divInt z w)):= .of (mG z w) (mF z w) (bBr h h' c)
theorem bCc:bQ PG 181 f181 [5,4] []=true:=by kernel_rfl
theorem aPT{z w:Int}(h:aX 150000 z.natAbs)(h':aX 150000 w.natAbs)(c:w≠0):VX (m+9) 181 [tI z,tI w]=some (.tp [tR (Rat.divInt z w),.int .i64 ((0:Nat):Int)],false):=by
 have n1:=aQS (m:=m+5) (h.mono (k:=9000000) (by decide))
 have t:=aQS (m:=m+5) (h'.mono (k:=9000000) (by decide))
 have c1:=aNH (m:=m+7) (z:=w)
 have c2:=aF6 (m:=m) h h' c
 refine bY rfl func181 bCc rfl ?_
 simp only[f181,N1,bD,bJ,bM,bL,bH,zB,zG]
 simp (disch:=first|rfl|omega)only[S1,aC,aE,aM,aJ,zB,reduceCtorEq,zD,zG,zH,TQ,n1 _,t _,vJ 253 rfl,c1 _,decide_eq_false c,vJ 223 rfl,c2 _,aJ6]
theorem bEs{z w:Int}(h:aX 150000 z.natAbs)(h':aX 150000 w.natAbs)(c:w≠0):CC (VX (m+9)) 181 [tI z,tI w] (.tp [tR (Rat.divInt z w),.int .i64 ((0:Nat):Int)]):= .of (mG z w) (mF z w) (aPT h h' c)
theorem aSe(a b:Rat):(a.den:Int)*b.den≠0:=by
 have h1:=a.den_pos
 have h2:=b.den_pos
 exact Int.mul_ne_zero (by omega) (by omega)
theorem bCD:bQ PG 200 f200 [4] []=true:=by kernel_rfl
theorem aJE{a b:Rat}(h:FR 30000 a)(h':FR 30000 b):VX (m+9) 200 [tR a,tR b]=some (tR (a+b),false):=by
 have g:=aBv (m:=m+7) (z:=(a.den:Int))
 have i:=aBv (m:=m+7) (z:=(b.den:Int))
 have o:=aJU (m:=m+4)
 have f:=vE (m:=m+5) (z:=a.num) (w:=(b.den:Int)) (h.1.mono (by decide)) (h'.2.mono (by decide))
 have s:=vE (m:=m+5) (z:=b.num) (w:=(a.den:Int)) (h'.1.mono (by decide)) (h.2.mono (by decide))
 have j:=vE (m:=m+5) (z:=(a.den:Int)) (w:=(b.den:Int)) (h.2.mono (by decide)) (h'.2.mono (by decide))
 have a1:=aRH (m:=m+4) (z:=a.num) (w:=b.num) (h.1.mono (by decide)) (h'.1.mono (by decide))
 have a2:=aRH (m:=m+4) (z:=a.num*b.den) (w:=b.num*a.den) ((h.mul1 h').1.mono (by decide)) ((h'.mul1 h).1.mono (by decide))
 have fn:aX 60001 (a.num*b.den+b.num*a.den).natAbs:=((h.mul1 h').1.add (h'.mul1 h).1).le (Int.natAbs_add_le _ _)
 have lo:=aF6 (m:=m) (z:=a.num*b.den+b.num*a.den) (w:=(a.den:Int)*b.den) (fn.mono (by decide)) ((h.mul1 h').2.2.1.mono (by decide)) (aSe a b)
 rw[show Rat.divInt (a.num*b.den+b.num*a.den) ((a.den:Int)*b.den)=a+b by rw[←bEt,bKb]]at lo
 refine bY rfl func200 bCD rfl ?_
 simp only[f200,N1,bD,bJ,bM,bL,bH,zB,zG]
 cases d:decide ((a.den:Int)=1)
 ·simp (disch:=first|rfl|omega)only[S1,aC,aE,aM,aJ,zB,reduceCtorEq,zD,zG,zH,TQ,aT,vJ 206 rfl,g _,d,f _,s _,j _,a2 _,lo _]
 ·cases hB:decide ((b.den:Int)=1)
  ·simp (disch:=first|rfl|omega)only[S1,aC,aE,aM,aJ,zB,reduceCtorEq,zD,zG,zH,TQ,aT,vJ 206 rfl,g _,i _,d,hB,f _,s _,j _,a2 _,lo _]
  ·simp (disch:=first|rfl|omega)only[S1,aC,aE,aM,aJ,aD,zB,reduceCtorEq,zD,zG,zH,TQ,aT,vJ 206 rfl,g _,i _,d,hB,vJ 270 rfl,a1 _,vJ 117 rfl,o _]
   obtain⟨p,q⟩:=aP6 (aAo d) (aAo hB)
   exact oU p.symm (by rw[q])
theorem aSj{a b:Rat}(h:FR 30000 a)(h':FR 30000 b):CC (VX (m+9)) 200 [tR a,tR b] (tR (a+b)):= .of (pD a b) (rP a b) (aJE h h')
theorem bC1:bQ PG 143 f143 [4] []=true:=by kernel_rfl
theorem aRZ{a b:Rat}(h:FR 30000 a)(h':FR 30000 b):VX (m+10) 143 [tR a,tR b]=some (tR (a-b),false):=by
 have n1:=aJL (m:=m+5) (h'.mono (k:=9000000) (by decide))
 have a1:=aSj (m:=m) h (b:= -b) ⟨by rw[Rat.neg_num,Int.natAbs_neg];exact h'.1,by rw[Rat.neg_den];exact h'.2⟩
 rw[←Rat.sub_eq_add_neg]at a1
 refine bY rfl func143 bC1 rfl ?_
 simp only[f143,N1,bD,bJ,bM,bL,bH,zB,zG]
 simp (disch:=first|rfl|omega)only[S1,zB,reduceCtorEq,zD,zG,zH,TQ,n1 _,a1 _]
theorem bG4{a b:Rat}(h:FR 30000 a)(h':FR 30000 b):CC (VX (m+10)) 143 [tR a,tR b] (tR (a-b)):= .of (pD a b) (rP a b) (aRZ h h')
theorem bEI:bQ PG 142 f142 [4] []=true:=by kernel_rfl
theorem aJT{a b:Rat}(h:FR 30000 a)(h':FR 30000 b):VX (m+9) 142 [tR a,tR b]=some (tR (a*b),false):=by
 have g:=aBv (m:=m+7) (z:=(a.den:Int))
 have i:=aBv (m:=m+7) (z:=(b.den:Int))
 have o:=aJU (m:=m+4)
 have f:=vE (m:=m+5) (z:=a.num) (w:=b.num) (h.1.mono (by decide)) (h'.1.mono (by decide))
 have j:=vE (m:=m+5) (z:=(a.den:Int)) (w:=(b.den:Int)) (h.2.mono (by decide)) (h'.2.mono (by decide))
 have lo:=aF6 (m:=m) (z:=a.num*b.num) (w:=(a.den:Int)*b.den) ((h.mul1 h').2.1.mono (by decide)) ((h.mul1 h').2.2.1.mono (by decide)) (aSe a b)
 rw[show Rat.divInt (a.num*b.num) ((a.den:Int)*b.den)=a*b by rw[←bDz,bKb]]at lo
 refine bY rfl func142 bEI rfl ?_
 simp only[f142,N1,bD,bJ,bM,bL,bH,zB,zG]
 cases d:decide ((a.den:Int)=1)
 ·simp (disch:=first|rfl|omega)only[S1,aC,aE,aM,aJ,zB,reduceCtorEq,zD,zG,zH,TQ,aT,vJ 206 rfl,g _,d,f _,j _,lo _]
 ·cases hB:decide ((b.den:Int)=1)
  ·simp (disch:=first|rfl|omega)only[S1,aC,aE,aM,aJ,zB,reduceCtorEq,zD,zG,zH,TQ,aT,vJ 206 rfl,g _,i _,d,hB,f _,j _,lo _]
  ·simp (disch:=first|rfl|omega)only[S1,aC,aE,aM,aJ,aD,zB,reduceCtorEq,zD,zG,zH,TQ,aT,vJ 206 rfl,g _,i _,d,hB,vJ 136 rfl,f _,vJ 117 rfl,o _]
   obtain⟨p,q⟩:=aP7 (aAo d) (aAo hB)
   exact oU p.symm (by rw[q])
theorem aJV{a b:Rat}(h:FR 30000 a)(h':FR 30000 b):CC (VX (m+9)) 142 [tR a,tR b] (tR (a*b)):= .of (pD a b) (rP a b) (aJT h h')
theorem bDh:bQ PG 202 f202 [5,4] []=true:=by kernel_rfl
theorem aSi{a b:Rat}(h:FR 30000 a)(h':FR 30000 b)(h0:b≠0):VX (m+9) 202 [tR a,tR b]=some (.tp [tR (a/b),.int .i64 ((0:Nat):Int)],false):=by
 have hn:b.num≠0:=fun e=>h0 (aAV e)
 have c1:=aNH (m:=m+7) (z:=b.num)
 have f:=vE (m:=m+5) (z:=a.num) (w:=(b.den:Int)) (h.1.mono (by decide)) (h'.2.mono (by decide))
 have j:=vE (m:=m+5) (z:=(a.den:Int)) (w:=b.num) (h.2.mono (by decide)) (h'.1.mono (by decide))
 have u:(a.den:Int)*b.num≠0:=Int.mul_ne_zero (by have:=a.den_pos;omega) hn
 have lo:=aF6 (m:=m) (z:=a.num*b.den) (w:=(a.den:Int)*b.num) ((h.mul1 h').1.mono (by decide)) ((h.mul1 h').2.2.2.mono (by decide)) u
 rw[bDa]at lo
 refine bY rfl func202 bDh rfl ?_
 simp only[f202,N1,bD,bJ,bM,bL,bH,zB,zG]
 simp (disch:=first|rfl|omega)only[S1,aC,aE,aM,aJ,zB,reduceCtorEq,zD,zG,zH,TQ,aT,vJ 253 rfl,c1 _,decide_eq_false hn,f _,j _,lo _,aJ6]
theorem aSO{a b:Rat}(h:FR 30000 a)(h':FR 30000 b)(h0:b≠0):CC (VX (m+9)) 202 [tR a,tR b] (.tp [tR (a/b),.int .i64 ((0:Nat):Int)]):= .of (pD a b) (rP a b) (aSi h h' h0)
end
section
variable {m:Nat}
def yQ(l:List Rat):TV×Bool:=if l=[]then(.em,false)else(.im 4 (bP.row l),true)
theorem aP9:yQ []=(.em,false):=rfl
theorem aBN{l:List Rat}(h:l≠ []):yQ l=(.im 4 (bP.row l),true):=if_neg h
def Ow(s:VS)(v:TV)(l:List Rat):Prop:=(l=[]/\v= .em)\/(l≠ []/\∃k,v= .ow k 0 l.length 4/\k<s.nxt/\s.ob k=⟨0,bP.row l⟩)
def yU(s s':VS)(v:TV)(l:List Rat):Prop:=(l=[]/\v= .em/\s'=s)\/(l≠ []/\v= .ow s.nxt 0 l.length 4/\s'=s.new (bP.row l))
theorem yU.ow{s s':VS}{v:TV}{l:List Rat}(h:yU s s' v l):Ow s' v l:=by
 rcases h with ⟨h1,h2,_⟩|⟨h1,h2,rfl⟩
 ·exact .inl ⟨h1,h2⟩
 ·exact .inr ⟨h1,s.nxt,h2,bIZ _,if_pos rfl⟩
theorem aPN{l:List Rat}:(bP.row l).length/4=l.length:=by rw[bP.row_len];exact Nat.mul_div_cancel _ (by decide)
theorem aQW{l:List Rat}:(bP.row l).length%4=0:=by rw[bP.row_len];exact Nat.mul_mod_left _ _
theorem aAb{orc:cN}{f:FuncId}{args:List TV}{l:List Rat}(hc:Can args)(hs:bW args<=cK)(b:orc f args=some (yQ l))(s:VS):∃v s',dD orc f args s=some (v,s')/\fD orc f args s=some (v,s')/\yU s s' v l:=by
 by_cases h:l=[]
 ·subst h
  exact⟨_,_,aEz hc hs b,by rw[aET hc.1 hs];exact aEz hc hs b,.inl ⟨rfl,rfl,rfl⟩⟩
 ·rw[aBN h]at b
  have:=aWy (s:=s) hc hs b (by decide) aQW
  rw[aPN]at this
  exact⟨_,_,this,by rw[aET hc.1 hs];exact this,.inr ⟨h,rfl,rfl⟩⟩
theorem aCO{orc:cN}{f:FuncId}{s:VS}{v0:TV}{o l:List Rat}{ts:List TV}(B:gD bP s v0 o)(hn:o.length<=1000)(p:Can ts)(hsz:bW ts<=1000)(b:orc f (tP o::ts)=some (yQ l)):∃v s1 s',dD orc f (v0::ts) s=some (v,s')/\fD orc f (v0::ts) s=some (v,s')/\Rest s v0 s1/\yU s1 s' v l:=by
 obtain⟨t,s1,C,D,g⟩:=B.close (n:=99999998) (by show o.length*9+1<=99999998;omega)
 have ec:cX cK s (v0::ts)=some (t::ts,s1):=by
  show cX (99999999+1) s (v0::ts)=_
  simp only[cX,C,bIS]
  rw[(mY 99999999).2 p.1 (by omega)]
  rfl
 have en:cL (t::ts)=tP o::ts:=by simp only[cL,D,p.2];rfl
 by_cases h:l=[]
 ·subst h
  refine⟨.em,s1,if fU .em then s else s1, ?_, ?_,g,.inl ⟨rfl,rfl,rfl⟩⟩
  ·unfold dD
   rw[ec]
   simp only[bIS,en,b,aP9,bIY,if_false]
   rfl
  ·unfold fD
   rw[ec]
   simp only[bIS,en,b,aP9,bIY,if_false]
   rfl
 ·rw[aBN h]at b
  have A:nN (.im 4 (bP.row l)) s1=some (.ow s1.nxt 0 l.length 4,s1.new (bP.row l)):=by
   show(if 0<4/\(bP.row l).length%4=0 then some (TV.ow s1.nxt 0 ((bP.row l).length/4) 4,s1.new (bP.row l))else none)=_
   rw[if_pos ⟨by decide,aQW⟩,aPN]
  refine⟨_,s1,_, ?_, ?_,g,.inr ⟨h,rfl,rfl⟩⟩
  ·unfold dD
   rw[ec]
   simp only[bIS,en,b,if_true,A]
  ·unfold fD
   rw[ec]
   simp only[bIS,en,b,if_true]
   exact A
theorem Ow.ret{s:VS}{v:TV}{l:List Rat}(h:Ow s v l)(x:l.length<=1000):(dM s [v]).map (nQ true)=some (tP l,false):=by
 rcases h with ⟨rfl,rfl⟩|⟨_,k,rfl,h2,F⟩
 ·rfl
 ·exact aJ5 h2 F rfl (by omega)
theorem aFt{s:VS}{k:Nat}{l:List Rat}(G:k<s.nxt)(b:s.ob k=⟨0,bP.row l⟩)(h0:l≠ [])(x:l.length<=1000):dM s [.ow k 0 l.length 4]=some (.im 4 (bP.row l),true):=by
 have a:(bP.row l).length=l.length*4:=bP.row_len l
 have hc:=sF (s:=s) (bP.row_can l).1 (bIO (bP.row_siz l) (by show l.length*9+1<=100000000;omega))
 have y:kM (bP.row l)=false:=by
  cases l with
  |nil=>exact absurd rfl h0
  |cons q l=>
   show(fU (.b (decide (q.num<0)))&&(fU (tW (aO q.num.natAbs))&&_))=false
   have:fU (tW (aO q.num.natAbs))=false:=by unfold tW;cases List.map wc (aO q.num.natAbs)<;>rfl
   rw[this];rfl
 simp only[dM,b]
 rw[if_neg (fun h=>by rw[y]at h;exact absurd h.2.2.1 (by decide)),if_pos ⟨trivial,G,trivial,a,by decide⟩,hc]
 simp only[bIS,b,if_true,(bP.row_can l).2]
theorem bIu:fM PG 35= .sli:=by kernel_rfl
theorem bDV{q:Rat}{l:List Rat}:bX .sli .eql (tP (q::l)) .nil=some (.b false):=by
 show bX .sli .eql (tL 4 (bP.row (q::l))) .nil=_
 rw[aAI (EC.row_ne (E:=bP))];rfl
theorem aYo:bQ PG 113 f113 [2] []=true:=by kernel_rfl
theorem aOW{l:List Rat}(h:l.length<=1000):VX (m+1) 113 [tP l]=some (yQ l):=by
 cases l with
 |nil=>rfl
 |cons q l=>
  rw[aBN (by simp)]
  refine bY rfl func113 aYo rfl ?_
  simp only[f113,N1,bD,bJ,bM,bL,bH,zB,zG]
  simp (disch:=first|rfl|omega)only[S1,aK,aC,aE,aM,aJ,aD,zB,aY,bIu,bDV,bIR]
  rw[aRt (l:=[]) (len:=0) bKX rfl rfl (fun e=>by cases e) (by decide) (by simp only[bIV]at*;omega)]
  simp (disch:=first|rfl|omega)only[S1,zB,reduceCtorEq]
  exact aFt (k:=1) (l:=q::l) (show 1<2 by decide) rfl (by simp) h
theorem aZR:bQ PG 182 f182 [2,16] []=true:=by kernel_rfl
theorem xM{l:List Rat}(h:PS 9000000 l):VX (m+4) 182 [tP l]=some (yQ (tr l)):=by
 refine bY rfl func182 aZR rfl ?_
 simp only[f182,N1,bD,bJ,bM,bL,bH,zB,zG]
 have x:=h.1
 simp (disch:=first|rfl|omega)only[S1,aN,aC,aE,aM,aJ,zB,aY]
 refine .loop (fun n e s=>s=eA/\n<=l.length/\e 0=some (tP l)/\e 3=some (.int .i64 (n:Nat))/\tr (l.take n)=tr l) l.length ⟨rfl,bIK _, ?_, ?_,by simp⟩ (dC (by omega)) ?_
 ·simp (disch:=first|rfl|omega)only[S1,zB]
 ·simp (disch:=first|rfl|omega)only[S1,zB]
 ·rintro n e s ⟨rfl,hn,e0,g,u⟩
  have fin:tr (l.take n)=l.take n->∀e:bB,True:=fun _ _=>trivial
  by_cases h0:n=0
  ·subst h0
   obtain⟨v,s', -,i,r⟩:=aAb (iG []) (iZ []) (aOW (m:=m+2) (l:=[]) (by decide)) eA
   rcases r with ⟨_,rfl,rfl⟩|⟨c,_⟩
   ·simp (disch:=first|rfl|omega)only[S1,aC,aE,aM,aJ,zB,reduceCtorEq,zG,aY,e0,g,vJ 113 rfl,bLz,bIR,i]
    rw[←u]
    rfl
   ·exact absurd rfl c
  ·obtain⟨j,rfl⟩:∃j,n=j+1:=⟨n-1,by omega⟩
   have g1:decide (0<j+1)=true:=decide_eq_true (by omega)
   have sg:=aFz (m:=m+1) (h.co (j:=j) (by omega))
   cases w:decide (fW (co l j)=0)
   ·have d:co l j≠0:=fun e=>of_decide_eq_false w (aFf.2 e)
    have a:(l.take (j+1)).length=j+1:=by rw[bIW];omega
    have c:l.take (j+1)≠ []:=fun e=>by rw[e]at a;cases a
    obtain⟨v,s', -,i,r⟩:=aAb (iG (l.take (j+1))) (iZ _) (aOW (m:=m+2) (l:=l.take (j+1)) (by omega)) eA
    rcases r with ⟨z,_⟩|⟨_,rfl,rfl⟩
    ·exact absurd z c
    ·rw[←u,aLD (by omega) d,aBN c]
     simp (disch:=first|rfl|omega)only[S1,aC,aE,aM,aJ,zB,reduceCtorEq,aY,e0,g,g1,bJw,lD,kX,vJ 139 rfl,sg _,w,vJ 113 rfl,bLz,bIR,i]
     exact aFt (k:=0) (show 0<1 by decide) rfl c (by omega)
   ·have d:=aFf.1 (of_decide_eq_true w)
    simp (disch:=first|rfl|omega)only[S1,aC,aE,aM,aJ,zB,aY,e0,g,g1,bJw,lD,kX,vJ 139 rfl,sg _,w]
    exact⟨j,by omega,by omega,rfl,by rw[←u,aLc d]⟩
theorem aFm{k off len sz:Nat}:jU PG 35 (.ow k off len sz)=some (.int .i64 (len:Nat)):=aJy eR
theorem aQI:jU PG 35 .em=some (.int .i64 ((0:Nat):Int)):=bER eR
theorem aVO:bQ PG 90 f90 [2] []=true:=by kernel_rfl
theorem aWR{l:List Rat}(h:PS 9000000 l):VX (m+5) 90 [tP l]=some (.int .i64 (iz (tr l).length),false):=by
 have u:=fK l
 have x:=h.1
 refine bY rfl func90 aVO rfl ?_
 simp only[f90,N1,bD,bJ,bM,bL,bH,zB,zG]
 obtain⟨v,s', -,i,r⟩:=aAb (iG l) (iZ l) (xM (m:=m) h) eA
 rcases r with ⟨z,rfl,rfl⟩|⟨c,rfl,rfl⟩
 ·rw[z]
  simp (disch:=first|rfl|omega)only[S1,aN,aC,aE,aM,aJ,zB,reduceCtorEq,vJ 182 rfl,i,aQI]
 ·simp (disch:=first|rfl|omega)only[S1,aN,aC,aE,aM,aJ,zB,reduceCtorEq,vJ 182 rfl,i,aFm]
theorem aI4{l:List Rat}(h:PS 9000000 l):CC (VX (m+5)) 90 [tP l] (.int .i64 (iz (tr l).length)):= .of (iG l) (iZ l) (aWR h)
end
section
variable {m:Nat}
theorem aIp{et:fO}{x:Nat}(h:x<18446744073709551616):bX et .and (.int .u64 (x:Int)) (.int .u64 ((4294967295:Nat):Int))=some (.int .u64 ((x%4294967296:Nat):Int)):=by
 simp only[bX,dY,if_true]
 rw[if_pos ⟨by omega,by show(x:Int)<=18446744073709551615;omega,by decide,by decide⟩]
 have e:=Nat.and_two_pow_sub_one_eq_mod x 32
 have D:Nat.land x 4294967295=x%4294967296:=e
 rw[show((x:Int)).toNat=x from rfl,show(((4294967295:Nat):Int)).toNat=4294967295 from rfl,D]
theorem niu:oE PG 3 114=some .u64:=by kernel_rfl
theorem bIf:oE PG 114 3=some .i64:=by kernel_rfl
theorem aIf{z:Nat}(h:z<18446744073709551616):IntKind.u64.wrap (z:Int)=(z:Int):=by rw[aA0];omega
theorem bAu:bQ PG 260 f260 [5,4] []=true:=by kernel_rfl
theorem bC7{n:Nat}(h:n<4294967296):CC (VX (m+1)) 260 [.int .u64 ((1:Nat):Int),.int .u64 (n:Nat)] (.tp [.int .u64 ((0:Nat):Int),.int .u64 (n:Nat)]):=by
 refine .of (aFX _ _ _) (aFV _ _ _) ?_
 have h1:n/4294967296=0:=bKs h
 have h2:n%4294967296=n:=bJo h
 have a1:bX (fM PG 103) .and (.int .u64 ((1:Nat):Int)) (.int .u64 ((4294967295:Nat):Int))=some (.int .u64 ((1:Nat):Int)):=aIp (by decide)
 have a2:bX (fM PG 103) .and (.int .u64 (n:Nat)) (.int .u64 ((4294967295:Nat):Int))=some (.int .u64 (n:Nat)):=by rw[aIp (by omega),h2]
 have a3:bX (fM PG 103) .and (.int .u64 ((0:Nat):Int)) (.int .u64 ((4294967295:Nat):Int))=some (.int .u64 ((0:Nat):Int)):=aIp (by decide)
 refine bY rfl func260 bAu rfl ?_
 simp only[f260,N1,bD,bJ,bM,bL,bH,zB,zG]
 simp (disch:=first|rfl|omega)only[S1,aC,aE,aM,aJ,zB,reduceCtorEq,zD,a1,a2,a3,Nat.one_mul,bJU,Nat.mul_zero,Nat.zero_div,Nat.reduceDiv,h1]
 rfl
theorem bD9:bQ PG 186 f186 [5,4] []=true:=by kernel_rfl
theorem bFA{n:Nat}(h:n<4294967296):CC (VX (m+2)) 186 [.int .u64 ((1:Nat):Int),.int .u64 (n:Nat)] (.tp [.int .u64 ((0:Nat):Int),.int .u64 (n:Nat)]):=by
 refine .of (aFX _ _ _) (aFV _ _ _) ?_
 have c1:=bC7 (m:=m) h
 refine bY rfl func186 bD9 rfl ?_
 simp only[f186,N1,bD,bJ,bM,bL,bH,zB,zG]
 simp (disch:=first|rfl|omega)only[S1,aC,aE,aM,aJ,zB,reduceCtorEq,zD,vJ 260 rfl,c1 _]
 rfl
def aDU:List TV:=[.b false,.nil,.b false,.nil]
def oB(n k:Nat)(q:Rat):List TV:=bP.row (bIQ k q)++(bIQ (n-k) aDU).flatten
theorem aGH(j:Nat):(bIQ j aDU).flatten.length=j*4:=by
 induction j with
 |zero=>rfl
 |succ j ih=>rw[List.replicate_succ,List.flatten_cons,bJ3,ih];show 4+j*4=(j+1)*4;omega
theorem aTc(j k:Nat)(h:k<=j):(bIQ j aDU).flatten.drop (k*4)=(bIQ (j-k) aDU).flatten:=by
 obtain⟨i,rfl⟩:∃i,j=k+i:=⟨j-k,by omega⟩
 rw[←List.replicate_append_replicate,List.flatten_append,List.drop_append_of_le_length (by rw[aGH];exact bIK _),bKW (by rw[aGH];exact bIK _),Nat.add_sub_cancel_left]
 rfl
theorem aOG{n k:Nat}{q:Rat}(h:k<=n):(oB n k q).length=n*4:=by
 unfold oB
 rw[bJ3,bP.row_len,aGH,bJz]
 show k*4+(n-k)*4=n*4
 omega
theorem aOb{n k j:Nat}{q:Rat}(h:k+j<=n):gS (bP.row (bIQ j q)) (k*4) (oB n k q)=some (oB n (k+j) q):=by
 have c:(bP.row (bIQ j q)).length=j*4:=by rw[bP.row_len,bJz];rfl
 have a:(bP.row (bIQ k q)).length=k*4:=by rw[bP.row_len,bJz];rfl
 simp only[gS]
 rw[if_pos (by rw[c,aOG (by omega)];omega)]
 congr 1
 unfold oB
 rw[bM8 (by rw[a];exact bIK _),bJ2 (by rw[a];exact bIK _),c,bMf,bKW (by rw[a];omega),a,bJO]
 rw[show k*4+j*4-k*4=j*4 by omega,aTc _ _ (by omega),←bP.row_app,List.replicate_append_replicate,show n-k-j=n-(k+j) by omega]
theorem bAN{n k j:Nat}{q:Rat}(h:j<=k)(h2:k<=n):jF (j*4) 0 (oB n k q)=some (bP.row (bIQ j q)):=by
 have c:(bP.row (bIQ j q)).length=j*4:=by rw[bP.row_len,bJz];rfl
 simp only[jF]
 rw[if_pos (by rw[aOG h2];omega),bJd]
 congr 1
 obtain⟨i,rfl⟩:∃i,k=j+i:=⟨k-j,by omega⟩
 unfold oB
 rw[←List.replicate_append_replicate,bP.row_app,List.append_assoc,bM8 (by rw[c];exact bIK _),bJ2 (by rw[c];exact bIK _)]
theorem aXn{n:Nat}{q:Rat}:oB n n q=bP.row (bIQ n q):=by
 unfold oB
 rw[bJV]
 exact bK3 _
theorem bFS{s:VS}{n:Nat}{q:Rat}(hn:0<n)(d:n<=1000)(a:0<s.nxt)(t:s.ob 0=⟨0,oB n 0 q⟩):uC PG 78 s (.ow 0 0 n 4) (tP [q])=some (.int .i64 ((1:Nat):Int),s.set 0 ⟨0,oB n 1 q⟩):=by
 have u:jA s 4 (tP [q])=some (bP.row [q],1):=aEW (E:=bP) (l:=[q])
 simp only[uC,wQ,sR,if_true,a,t,u,bIS,and_self]
 have e:min 1 n=1:=by omega
 have v:(bP.row [q]).take (1*4)=bP.row (bIQ 1 q):=bJ2 (by rw[bP.row_len];exact bIK _)
 rw[e,if_neg (by decide),v,if_pos ⟨by decide,bP.row_one _⟩]
 have:=aOb (n:=n) (k:=0) (j:=1) (q:=q) (by omega)
 rw[bJU,bJl]at this
 rw[this]
 rfl
theorem bGm{s:VS}{n k:Nat}{q:Rat}(f:0<k)(w:k<n)(d:n<=1000)(a:0<s.nxt)(t:s.ob 0=⟨0,oB n k q⟩):uC PG 78 s (.ow 0 (0+k*4) (n-k) 4) (.ow 0 0 k 4)=some (.int .i64 ((min k (n-k):Nat):Int),s.set 0 ⟨0,oB n (k+min k (n-k)) q⟩):=by
 have u:jA s 4 (.ow 0 0 k 4)=some (bP.row (bIQ k q),k):=by
  simp only[jA,t]
  rw[if_pos ⟨trivial,a,by decide⟩,bAN (bIK _) (by omega)]
  rfl
 simp only[uC,wQ,sR,if_true,a,t,u,bIS,and_self]
 have y:min k (n-k)<=k:=Nat.min_le_left _ _
 have h0:min k (n-k)≠0:=by omega
 have A:min k (n-k)<=n-k:=Nat.min_le_right _ _
 rw[if_neg h0]
 generalize min k (n-k)=j at*
 have v:(bP.row (bIQ k q)).take (j*4)=bP.row (bIQ j q):=by
  have h1:=bP.take (bIQ k q) j
  rw[show bP.sz=4 from rfl]at h1
  rw[h1,List.take_replicate,bJc y]
 rw[v,if_pos ⟨by omega,bP.row_one _⟩,bJl,aOb (by omega)]
 rfl
theorem aXy{r:bB}{k off len:Nat}{lo:Operand}{g:Option Operand}:iX PG 35 r (.ow k off len 4) (some lo) g none=(eM r 0 (some lo)).bind fun l=>(eM r len g).bind fun h=>if l<=h/\h<=len then(if l=h then(if l=0 then some (.ow k off 0 4)else some .em)else some (.ow k (off+l*4) (h-l) 4))else none:=by
 simp only[iX,eR,kR,if_true,sR]
theorem aWJ{r:bB}{k off len:Nat}{g:Option Operand}:iX PG 35 r (.ow k off len 4) none g none=(eM r len g).bind fun h=>if h<=len then some (.ow k off h 4)else none:=by
 simp only[iX,eR,kR,if_true,sR,eM,bIS]
 congr 1;funext h
 by_cases hh:h<=len
 ·rw[if_pos ⟨bIR _,hh⟩,if_pos hh]
  by_cases h0:0=h
  ·rw[if_pos h0,h0]
  ·rw[if_neg h0];simp
 ·rw[if_neg (fun h=>hh h.2),if_neg hh]
theorem bGr:bQ PG 277 f277 [4,37,26] []=true:=by kernel_rfl
theorem bH6{q:Rat}{n:Nat}(hn:0<n)(d:n<=1000):VX (m+3) 277 [tP [q],.int .i64 (n:Nat)]=some (yQ (bIQ n q)):=by
 have o:bIQ n q≠ []:=fun e=>by have:=congrArg bKn e;rw[bJz]at this;simp at this;omega
 have c1:=bFA (m:=m) (n:=n) (by omega)
 rw[aBN o]
 refine bY rfl func277 bGr rfl ?_
 simp only[f277,N1,bD,bJ,bM,bL,bH,zB,zG]
 have F:=aIf (z:=1) (by decide)
 have G:=aIf (z:=n) (by omega)
 have H:IntKind.i64.wrap ((n:Nat):Int)=(n:Int):=uP (by omega) (by omega)
 have g1:decide (9223372036854775807<n)=false:=decide_eq_false (by omega)
 have f1:=bFS (s:=eA.new (bIQ n [TV.b false,.nil,.b false,.nil]).flatten) (q:=q) hn d bKX rfl
 simp (disch:=first|rfl|omega)only[S1,aN,aC,aE,aM,aJ,zB,zD,aY,niu,bIf,F,G,H,aCc,vJ 186 rfl,c1 _,bJq,g1,f1]
 refine .loop (fun r e s=>∃k,0<k/\k<=n/\r=n-k/\s.nxt=1/\s.ob 0=⟨0,oB n k q⟩/\e 7=some (.ow 0 0 n 4)/\e 8=some (.int .i64 (k:Nat))) (n-1) ?_ (dC (by omega)) ?_
 ·refine⟨1,by decide,hn,rfl,rfl,rfl, ?_, ?_⟩<;>simp (disch:=first|rfl|omega)only[S1,zB]
 ·rintro r e s ⟨k,f,w,rfl,sn,so,B,C⟩
  by_cases a:k<n
  ·have g2:decide (k<n)=true:=decide_eq_true a
   have f2:=bGm (s:=s) f a d (by omega) so
   have p:(k=n)=False:=by simp;omega
   have I:(k=0)=False:=by simp;omega
   obtain⟨j,J⟩:∃j,min k (n-k)=j:=⟨_,rfl⟩
   rw[J,bJl]at f2
   have K:0<j/\k+j<=n:=by omega
   simp (disch:=first|rfl|omega)only[S1,aN,zB,B,C,sn,so,aJy eR,g2,aCc,aXy,aWJ,p,I,f2]
   exact⟨n-(k+j),by omega,k+j,by omega,by omega,rfl,rfl,rfl⟩
  ·have g2:decide (k<n)=false:=decide_eq_false a
   obtain rfl:k=n:=by omega
   rw[aXn]at so
   simp (disch:=first|rfl|omega)only[S1,aN,zB,reduceCtorEq,B,C,aJy eR,g2]
   have:=aFt (s:=s) (k:=0) (l:=bIQ k q) (by omega) so o (by rw[bJz];exact d)
   rw[bJz]at this
   exact this
end
end Go.Proofs.YtmjoaipkaddkbaaGreatDoor.Ev
namespace Go.Proofs.YtmjoaipkaddkbaaGreatDoor
section
def fQ(r b:List Rat)(i:Nat)(c:Rat):Nat->List Rat
 |0=>r
 |t+1=>(fQ r b i c t).set (i+t) (co (fQ r b i c t) (i+t)-c*co b t)
theorem aIb(r b:List Rat)(i:Nat)(c:Rat):∀t,(fQ r b i c t).length=r.length
 |0=>rfl
 |t+1=>by rw[fQ,bJX,aIb r b i c t]
theorem aSC(l:List Rat)(i:Nat)(x:Rat)(j:Nat):co (l.set i x) j=if j=i/\i<l.length then x else co l j:=by
 unfold co
 rw[bJb,List.getElem?_set]
 by_cases h:i=j
 ·subst h
  by_cases h2:i<l.length
  ·simp [h2]
  ·simp [h2,bJb]
 ·rw[if_neg h,if_neg (fun e=>h e.1.symm),bJb]
theorem aQL{r b:List Rat}{i:Nat}{c:Rat}:∀ {t:Nat},i+t<=r.length->∀j,co (fQ r b i c t) j=if i<=j/\j<i+t then co r j-c*co b (j-i)else co r j
 |0,_,j=>by rw[if_neg (by omega)];rfl
 | t+1,h,j=>by
  have ih:=aQL (r:=r) (b:=b) (i:=i) (c:=c) (t:=t) (by omega)
  rw[fQ,aSC,aIb]
  by_cases o:j=i+t
  ·subst o
   rw[if_pos ⟨rfl,by omega⟩,if_pos ⟨by omega,by omega⟩,ih,if_neg (by omega),Nat.add_sub_cancel_left]
  ·rw[if_neg (fun e=>o e.1),ih]
   by_cases h2:i<=j/\j<i+t
   ·rw[if_pos h2,if_pos ⟨h2.1,by omega⟩]
   ·rw[if_neg h2,if_neg (fun e=>h2 ⟨e.1,by omega⟩)]
theorem bAc(n:Nat):tr (bIQ n 0)=[]:=by
 have:=uQ (l:=bIQ n (0:Rat)) (n:=0) (fun j _=>aFQ n j)
 exact bJA (by omega)
structure uH(b:List Rat)(n:Nat)(T:List Rat×List Rat)(ka kb i:Nat)(q r:List Rat):Prop where
 lq:q.length=n
 lr:r.length+1=n+b.length
 zr:∀j,i+b.length<=j+1->co r j=0
 zq:∀j,j<i->co q j=0
 res:∃f,(tr r).length<f/\mV b f (tr q) (tr r)=T
 wd:∃t,WD (ka+t*(kb+1)) (tr r)/\t+i<=n
theorem uH.start{a b:List Rat}{ka kb n:Nat}(C:WD ka a)(h:(tr a).length+1=n+(tr b).length):uH (tr b) n (yN a b) ka kb n (bIQ n 0) (tr a):=
 ⟨bJz,h,fun j o=>gZ (by omega),fun j _=>aFQ n j,⟨(tr a).length+1,by rw[aGb];exact bIZ _,by rw[bAc,aGb];rfl⟩,0,by rw[aGb,bJU];exact C.tr,by omega⟩
theorem uH.next{b:List Rat}{n:Nat}{T:List Rat×List Rat}{ka kb i:Nat}{q r:List Rat}(h:uH b n T ka kb (i+1) q r)(D:WD kb b)(hn:NF b)(p:b≠ [])(E:i<n):uH b n T ka kb i (q.set i (co r (i+b.length-1)/co b (b.length-1))) (fQ r b i (co r (i+b.length-1)/co b (b.length-1)) b.length):=by
 have w:0<b.length:=bJK.2 p
 obtain⟨lq,lr,zr,zq,⟨f,hf,d⟩,t,B,F⟩:=h
 have y:i+b.length<=r.length:=by omega
 obtain⟨c,hc⟩:∃c,c=co r (i+b.length-1)/co b (b.length-1):=⟨_,rfl⟩
 rw[←hc]
 have k:co b (b.length-1)≠0:=hn p
 have m:∀j,co (fQ r b i c b.length) j=co r j-c*(if i<=j then co b (j-i)else 0):=fun j=>by
  rw[aQL y]
  by_cases h1:i<=j/\j<i+b.length
  ·rw[if_pos h1,if_pos h1.1]
  ·rw[if_neg h1]
   by_cases h2:i<=j
   ·rw[if_pos h2,gZ (l:=b) (by omega),Rat.mul_zero,Rat.sub_eq_add_neg,show(-0:Rat)=0 from rfl,Rat.add_zero]
   ·rw[if_neg h2,Rat.mul_zero,Rat.sub_eq_add_neg,show(-0:Rat)=0 from rfl,Rat.add_zero]
 have s:∀j,co (q.set i c) j=if j=i then c else co q j:=fun j=>by
  rw[aSC]
  by_cases h1:j=i
  ·rw[if_pos ⟨h1,by omega⟩,if_pos h1]
  ·rw[if_neg (fun e=>h1 e.1),if_neg h1]
 have v:∀j,i+b.length<=j+1->co (fQ r b i c b.length) j=0:=fun j o=>by
  rw[m,if_pos (by omega)]
  by_cases h1:j+1=i+b.length
  ·rw[show j-i=b.length-1 by omega,show j=i+b.length-1 by omega,hc,Rat.div_mul_cancel k,Rat.sub_eq_add_neg,Rat.add_neg_cancel]
  ·rw[zr j (by omega),gZ (l:=b) (by omega),Rat.mul_zero,Rat.sub_eq_add_neg,Rat.add_neg_cancel]
 refine⟨by rw[bJX,lq],by rw[aIb];exact lr,v,fun j o=>by rw[s,if_neg (by omega)];exact zq j (by omega), ?_, ?_⟩
 ·by_cases h0:co r (i+b.length-1)=0
  ·have c0:c=0:=by rw[hc,h0,Rat.div_def,Rat.zero_mul]
   have z:tr (q.set i c)=tr q:=aAr fun j=>by
    rw[s];split
    ·next e=>rw[e,c0,zq i (by omega)]
    ·rfl
   have u:tr (fQ r b i c b.length)=tr r:=aAr fun j=>by rw[m,c0,Rat.zero_mul,Rat.sub_eq_add_neg,show(-0:Rat)=0 from rfl,Rat.add_zero]
   rw[z,u]
   exact⟨f,hf,d⟩
  ·have A:(tr r).length=i+b.length:=by
    have h1:=uQ (l:=r) (n:=i+b.length) fun j o=>zr j (by omega)
    have h2:=aJz h0
    omega
   obtain⟨g,rfl⟩:∃g,f=g+1:=⟨f-1,by omega⟩
   rw[mV,if_neg (by omega),A,bJw,fF,←hc]at d
   have z:tr (vP (tr q) i c)=tr (q.set i c):=aAr fun j=>by
    rw[aAc,s,fF]
    by_cases e:j=i
    ·rw[if_pos e,if_pos e,e,zq i (by omega),Rat.zero_add]
    ·rw[if_neg e,if_neg e]
   have u:tr (oH (tr r) b i c)=tr (fQ r b i c b.length):=aAr fun j=>by rw[aDh,m,fF]
   rw[z,u]at d
   refine⟨g, ?_,d⟩
   have:=uQ (l:=fQ r b i c b.length) (n:=i+b.length-1) fun j o=>v j (by omega)
   omega
 ·by_cases h0:co r (i+b.length-1)=0
  ·have c0:c=0:=by rw[hc,h0,Rat.div_def,Rat.zero_mul]
   have u:tr (fQ r b i c b.length)=tr r:=aAr fun j=>by rw[m,c0,Rat.zero_mul,Rat.sub_eq_add_neg,show(-0:Rat)=0 from rfl,Rat.add_zero]
   rw[u]
   exact⟨t,B,by omega⟩
  ·have A:(tr r).length=i+b.length:=by
    have h1:=uQ (l:=r) (n:=i+b.length) fun j o=>zr j (by omega)
    have h2:=aJz h0
    omega
   have hs:=(B.step D k i).tr
   rw[A,fF,←hc]at hs
   have u:tr (oH (tr r) b i c)=tr (fQ r b i c b.length):=aAr fun j=>by rw[aDh,m,fF]
   rw[u]at hs
   refine⟨t+1, ?_,by omega⟩
   rw[show ka+(t+1)*(kb+1)=ka+t*(kb+1)+kb+1 by rw[Nat.succ_mul];omega]
   exact hs
theorem uH.done{b:List Rat}{n:Nat}{T:List Rat×List Rat}{ka kb:Nat}{q r:List Rat}(h:uH b n T ka kb 0 q r)(p:b≠ []):T=(tr q,tr r):=by
 have w:0<b.length:=bJK.2 p
 obtain⟨f,hf,d⟩:=h.res
 have:=uQ (l:=r) (n:=b.length-1) fun j o=>h.zr j (by omega)
 cases f with
 |zero=>omega
 |succ f=>
  rw[mV,if_pos (by omega)]at d
  exact d.symm
end
end Go.Proofs.YtmjoaipkaddkbaaGreatDoor
namespace Go.Proofs.YtmjoaipkaddkbaaGreatDoor.Ev
section
variable {m:Nat}
def tZ(n k:Nat)(f:Nat->Rat):List TV:=bP.row (mk k f)++(bIQ (n-k) aDU).flatten
theorem aZb{n k:Nat}{f:Nat->Rat}(h:k<=n):(tZ n k f).length=n*4:=by
 unfold tZ
 rw[bJ3,bP.row_len,aGH,iR]
 show k*4+(n-k)*4=n*4
 omega
theorem aZz{n k:Nat}{f:Nat->Rat}(h:k<n):gS (cR (f k)) (k*4) (tZ n k f)=some (tZ n (k+1) f):=by
 have r:(bP.row (mk k f)).length=k*4:=by rw[bP.row_len,iR];rfl
 have t:(cR (f k)).length=4:=rfl
 simp only[gS]
 rw[if_pos (by rw[t,aZb (by omega)];omega)]
 congr 1
 unfold tZ
 rw[bM8 (by rw[r];exact bIK _),bJ2 (by rw[r];exact bIK _),t,bMf,bKW (by rw[r];omega),r,bJO]
 rw[show k*4+4-k*4=1*4 by omega,aTc _ _ (by omega),aBF,bP.row_app,aKy,show n-k-1=n-(k+1) by omega]
theorem aXG{n:Nat}{f:Nat->Rat}:tZ n n f=bP.row (mk n f):=by
 unfold tZ
 rw[bJV]
 exact bK3 _
theorem aEI{k len j:Nat}(h:j<len):mE PG 35 (.ow k 0 len 4) j=some (.po k (0+j*4)):=aXc (E:=bP) eR kR sR h
theorem bHP{l:List Rat}{j:Nat}(h:j<l.length):jF 4 (j*4) (bP.row l)=some (cR (co l j)):=bP.all h
theorem aAH{l:List Rat}{j:Nat}(h:j<l.length):(j*4+4<=(bP.row l).length)=True:=by
 have e:(bP.row l).length=l.length*4:=bP.row_len l
 rw[e];exact eq_true (by omega)
theorem aBT{l:List Rat}{j:Nat}(h:j<l.length):List.take 4 (List.drop (j*4) (bP.row l))=[.b (decide ((co l j).num<0)),tW (aO (co l j).num.natAbs),.b (decide (((co l j).den:Int)<0)),tW (aO ((co l j).den:Int).natAbs)]:=by
 have e:=bHP h
 unfold jF at e
 rw[if_pos (of_eq_true (aAH h))]at e
 exact Option.some.inj e
theorem aTg{l:List Rat}{j:Nat}{q:Rat}(h:j<l.length):gS (tR q).cells (j*4) (bP.row l)=some (bP.row (l.set j q)):=bP.put (a:=q) h
theorem aYN:bQ PG 209 f209 [4] []=true:=by kernel_rfl
theorem aNS{l:List Rat}{c:Rat}(h:PS 30000 l)(hc:FR 30000 c):VX (m+10) 209 [tP l,tR c]=some (tP (eI l c),false):=by
 have O:=h.1
 refine jP rfl func209 aYN rfl ?_
 simp only[f209,N1,bD,bJ,bM,bL,bH,zB,zG]
 simp (disch:=first|rfl|omega)only[S1,aN,aC,aE,aM,aJ,zB,zD,aY]
 refine .up (fun k e s=>2<=s.nxt/\s.ob 0=⟨0,cR c⟩/\s.ob 1=⟨0,tZ l.length k fun j=>co l j*c⟩/\e 3=some (.po 0 0)/\e 5=some (.ow 1 0 l.length 4)/\e 11=some (tP l)/\e 12=some (.int .i64 (l.length:Nat))/\e 13=some (.int .i64 (k:Nat))) l.length ?_ (dC (by omega)) ?_
 ·refine⟨bIK _,rfl,rfl, ?_, ?_, ?_, ?_, ?_⟩<;>simp (disch:=first|rfl|omega)only[S1,zB]
 ·rintro k e s r ⟨sn,T,s1,u,P,w,x,y⟩
  by_cases d:k<l.length
  ·have g1:decide (k<l.length)=true:=decide_eq_true d
   have c1:=aJV (m:=m) (a:=co l k) (b:=c) ((h.co d).mono (by decide)) (hc.mono (by decide))
   have i:gS (tR (co l k*c)).cells (k*4) (tZ l.length k fun j=>co l j*c)=some (tZ l.length (k+1) fun j=>co l j*c):=aZz (n:=l.length) (k:=k) (f:=fun j=>co l j*c) d
   rw[aA8]at i
   have U:(0==s.nxt)=false:=by rw[beq_eq_false_iff_ne];omega
   have V:(1==s.nxt)=false:=by rw[beq_eq_false_iff_ne];omega
   simp (disch:=first|rfl|omega)only[S1,aC,aE,aM,aJ,zB,reduceCtorEq,zD,zH,aY,cR,u,P,w,x,y,T,s1,U,V,g1,lD,kX,aEI,vJ 142 rfl,c1 _,i]
   exact⟨d,by omega⟩
  ·have g1:decide (k<l.length)=false:=decide_eq_false d
   obtain rfl:k=l.length:=by omega
   rw[aXG]at s1
   have i:PS 9000000 (mk l.length fun j=>co l j*c):=⟨by rw[iR];omega,fun q hq=>by
    obtain⟨j,o,rfl⟩:=tD hq
    exact(h.co o).mul hc (by decide)⟩
   have hB:gD bP s (.ow 1 0 l.length 4) (mk l.length fun j=>co l j*c):= .inr ⟨1,by rw[iR];rfl,by omega,s1⟩
   obtain⟨v,W,s',B,D, -,F⟩:=aCO (orc:=VX (m+9)) (f:=182) (ts:=[]) hB (by rw[iR];omega) Can.nil (by decide) (xM (m:=m+5) i)
   have t:=F.ow.ret (bIO (fK _) (by rw[iR];omega))
   simp (disch:=first|rfl|omega)only[S1,zB,reduceCtorEq,P,x,y,g1,vJ 182 rfl,D]
   exact t
theorem bAs{l:List Rat}{c:Rat}(h:PS 30000 l)(hc:FR 30000 c):CC (VX (m+10)) 209 [tP l,tR c] (tP (eI l c)):= .of (aJF l c) (aJO l c) (aNS h hc)
theorem bCU:bQ PG 91 f91 [2] []=true:=by kernel_rfl
theorem bFa{l:List Rat}(h:PS 30000 l):VX (m+10) 91 [tP l]=some (tP (dU l),false):=by
 have O:=h.1
 refine jP rfl func91 bCU rfl ?_
 simp only[f91,N1,bD,bJ,bM,bL,bH,zB,zG]
 simp (disch:=first|rfl|omega)only[S1,aN,aC,aE,aM,aJ,zB,aY]
 refine .up (fun k e s=>∃v,e 3=some v/\e 6=some (tP l)/\e 7=some (.int .i64 (l.length:Nat))/\e 8=some (.int .i64 (k:Nat))/\fL bP eA s v (mk (k-1) fun j=>co l (j+1)*(((j+1:Nat):Int):Rat))) l.length ?_ (dC (by omega)) ?_
 ·refine⟨.nil, ?_, ?_, ?_, ?_,.nil _⟩<;>simp (disch:=first|rfl|omega)only[S1,zB]
 ·rintro k e s r ⟨v,u,G,H,I,Q⟩
  by_cases d:k<l.length
  ·have g1:decide (k<l.length)=true:=decide_eq_true d
   have A:fL bP eA ((s.new [.b false,.nil,.b false,.nil]).set s.nxt ⟨0,cR (co l k)⟩) v (mk (k-1) fun j=>co l (j+1)*(((j+1:Nat):Int):Rat)):=⟨Q.bld.keep (bKq _) (fun j o=>by
    have X:(j==s.nxt)=false:=by rw[beq_eq_false_iff_ne];omega
    rw[lG,iP,X];rfl),bIR _,fun j o=>absurd o (bJQ j),fun _ _ _ _ _=>bIR _⟩
   by_cases h0:k=0
   ·subst h0
    simp (disch:=first|rfl|omega)only[S1,aC,aE,aM,aJ,zB,zD,zE,zF,aY,u,G,H,I,g1,lD,aNY d,bJq]
    exact⟨d,_,rfl,A⟩
   ·have g2:decide (0<k)=true:=decide_eq_true (by omega)
    have fi:FR 30000 (((k:Nat):Int):Rat):=⟨aX.mono (j:=1) (show k<4294967296^1 by omega) (by decide),aX.one (by decide)⟩
    have c2:=aBc (m:=m+4) (z:=((k:Nat):Int)) (by omega) (by omega)
    have c3:=aJV (m:=m) (a:=co l k) (b:=(((k:Nat):Int):Rat)) ((h.co d).mono (by decide)) fi
    obtain⟨v',s',ea,J⟩:=A.stepR (co l k*(((k:Nat):Int):Rat)) (by rw[iR];omega)
    simp only[cR,qI,sN]at ea
    simp (disch:=first|rfl|omega)only[S1,aK,aC,aE,aM,aJ,aD,zB,reduceCtorEq,zD,zE,zH,aY,u,G,H,I,g1,g2,lD,kX,c2 _,c3 _,ea]
    exact⟨d,v',rfl,by rw[show k+1-1=(k-1)+1 by omega,aBF,show k-1+1=k by omega];exact⟨J.bld,bIR _,fun j o=>absurd o (bJQ j),fun _ _ _ _ _=>bIR _⟩⟩
  ·have g1:decide (k<l.length)=false:=decide_eq_false d
   obtain rfl:k=l.length:=by omega
   have i:PS 9000000 (mk (l.length-1) fun j=>co l (j+1)*(((j+1:Nat):Int):Rat)):=⟨by rw[iR];omega,fun q hq=>by
    obtain⟨j,o,rfl⟩:=tD hq
    exact(h.co (by omega)).mul (k:=9000000) (j:=30000) ⟨aX.mono (j:=1) (show j+1<4294967296^1 by omega) (by decide),aX.one (by decide)⟩ (by decide)⟩
   obtain⟨v2,W,s',B,D, -,F⟩:=aCO (orc:=VX (m+9)) (f:=182) (ts:=[]) Q.bld (by rw[iR];omega) Can.nil (by decide) (xM (m:=m+5) i)
   have t:=F.ow.ret (bIO (fK _) (by rw[iR];omega))
   simp (disch:=first|rfl|omega)only[S1,zB,reduceCtorEq,u,H,I,g1,vJ 182 rfl,D]
   exact t
theorem aJN{l:List Rat}(h:PS 30000 l):CC (VX (m+10)) 91 [tP l] (tP (dU l)):= .of (iG l) (iZ l) (bFa h)
theorem aY7:bQ PG 134 f134 [2] []=true:=by kernel_rfl
theorem aZa{a:List Rat}(h:PS 30000 a):VX (m+11) 134 [tP a]=some (tP (bK a),false):=by
 have K:=fK a
 have C:PS 30000 (tr a):=⟨bIO K h.1,fun q hq=>h.2 q (xU hq)⟩
 have O:=C.1
 obtain⟨Y,s1, -,B,L⟩:=aAb (orc:=VX (m+10)) (iG a) (iZ a) (xM (m:=m+6) (l:=a) ⟨h.1,fun q hq=>(h.2 q hq).mono (by decide)⟩) eA
 refine jP rfl func134 aY7 rfl ?_
 simp only[f134,N1,bD,bJ,bM,bL,bH,zB,zG]
 rcases L with ⟨R,rfl,rfl⟩|⟨p,rfl,rfl⟩
 ·have dz:decide (((0:Nat):Int)=0)=true:=rfl
  simp (disch:=first|rfl|omega)only[S1,aN,aC,aE,aM,aJ,zB,reduceCtorEq,aY,vJ 182 rfl,B,aQI,dz]
  rw[show bK a=tr a by unfold bK eI;rw[R];rfl,R]
  rfl
 ·have i:0<(tr a).length:=bJK.2 p
  have g1:decide (((tr a).length:Int)=0)=false:=decide_eq_false (by omega)
  have L:=aBc (m:=m+5) (z:=((1:Nat):Int)) (by decide) (by decide)
  have f2:=aSO (m:=m+1) (a:=((((1:Nat):Int)):Rat)) (b:=gQ a) ⟨aX.one (by decide),aX.one (by decide)⟩ (C.co (by omega)) (sU p)
  have f2:CC (VX (m+10)) 202 [tR ((((1:Nat):Int)):Rat),tR (co (tr a) ((tr a).length-1))] (.tp [tR (1/gQ a),.int .i64 ((0:Nat):Int)]):=f2
  have fi:FR 30000 (1/gQ a):=by
   rw[Rat.div_def,Rat.one_mul]
   exact(show FR 30000 (gQ a)from C.co (by omega)).inv (sU p)
  have c3:=aNS (m:=m) (l:=tr a) (c:=1/gQ a) C fi
  have hB:gD bP (((eA.new (bP.row (tr a))).new [.b false,.nil,.b false,.nil]).set 1 ⟨0,cR (1/gQ a)⟩) (.ow 0 0 (tr a).length 4) (tr a):= .inr ⟨0,rfl,(show 0<2 by decide),rfl⟩
  obtain⟨t1,t2, -,S, -, -⟩:=hB.call (orc:=VX (m+10)) (f:=209) (ts:=[tR (1/gQ a)]) (Can.cons (xW _) Can.nil) (by simp only[bW,uZ];decide) (by show(tr a).length*9<=90000000;omega) c3
  simp only[cR]at S
  have g:(tr a).length-1<(tr a).length:=by omega
  have M:=aAH (l:=tr a) g
  have N:=aBT (l:=tr a) g
  simp (disch:=first|rfl|omega)only[S1,aN,aC,aE,aM,aJ,zB,reduceCtorEq,zD,zG,zH,aY,vJ 182 rfl,B,aFm,g1,aEI,M,N,L _,f2 _,vJ 209 rfl,S]
  rfl
theorem aBu{a:List Rat}(h:PS 30000 a):CC (VX (m+11)) 134 [tP a] (tP (bK a)):= .of (iG a) (iZ a) (aZa h)
end
section
variable {m:Nat}
theorem bAy:bQ PG 218 f218 [2] []=true:=by kernel_rfl
theorem bDT{n:Nat}(hn:0<n)(I:n<=1000):VX (m+6) 218 [.int .i64 (n:Nat)]=some (yQ (bIQ n 0)):=by
 have d:bIQ n (0:Rat)≠ []:=fun e=>by have:=congrArg bKn e;rw[bJz]at this;simp at this;omega
 have z0:=aBc (m:=m) (z:=((0:Nat):Int)) (by decide) (by decide)
 have z0:CC (VX (m+5)) 43 [.int .i64 ((0:Nat):Int)] (tR 0):=z0
 have hB:gD bP (eA.new (cR 0)) (.ow 0 0 1 4) [(0:Rat)]:= .inr ⟨0,rfl,bKX,by rw[aKy];rfl⟩
 obtain⟨v,s1,s',q1,W, -,hO⟩:=aCO (orc:=VX (m+5)) (f:=277) (ts:=[.int .i64 (n:Nat)]) hB (by decide) (xT _ _) (by simp only[bW,dA];decide) (bH6 (m:=m+2) (q:=0) hn I)
 have W:fD (VX (m+5)) _ [.ow 0 0 1 4,.int .i64 (n:Nat)] (eA.new [.b (decide ((0:Rat).num<0)),tW (aO (0:Rat).num.natAbs),.b (decide (((0:Rat).den:Int)<0)),tW (aO ((0:Rat).den:Int).natAbs)])=_:=W
 rcases hO with ⟨K,_⟩|⟨_,rfl,rfl⟩
 ·exact absurd K d
 rw[aBN d]
 refine bY rfl func218 bAy rfl ?_
 simp only[f218,N1,bD,bJ,bM,bL,bH,zB,zG]
 simp (disch:=first|rfl|omega)only[S1,aC,aE,aM,aJ,aD,zB,reduceCtorEq,zD,zE,zH,aY,vJ 43 rfl,z0 _,vJ 277 rfl,W]
 have hf:=aFt (s:=s1.new (bP.row (bIQ n 0))) (k:=s1.nxt) (bIZ _) (by rw[iP,beq_self_eq_true];rfl) d (by rw[bJz];exact I)
 rw[bJz]at hf
 exact hf
theorem yU.keep{s s':VS}{v:TV}{l:List Rat}(h:yU s s' v l):s.nxt<=s'.nxt/\∀j,j<s.nxt->s'.ob j=s.ob j:=by
 rcases h with ⟨_,_,rfl⟩|⟨_,_,rfl⟩
 ·exact⟨bIK _,fun _ _=>rfl⟩
 ·exact⟨bKq _,fun j hj=>if_neg (by omega)⟩
theorem yU.later{s s' C:VS}{v:TV}{l:List Rat}(h:yU s s' v l)(A:∀j,j<s'.nxt->j≠1->C.ob j=s'.ob j)(hn:s'.nxt<=C.nxt)(h1:1<s.nxt):Ow C v l:=by
 rcases h with ⟨h1,h2,_⟩|⟨h2,rfl,rfl⟩
 ·exact .inl ⟨h1,h2⟩
 ·refine .inr ⟨h2,s.nxt,rfl,bIP (bIZ _) hn, ?_⟩
  rw[A s.nxt (bIZ _) (by omega)]
  exact if_pos rfl
theorem bFB{l:List Rat}(h0:l≠ []):kM (bP.row l)=false:=by
 cases l with
 |nil=>exact absurd rfl h0
 |cons q l=>
  show(fU (.b (decide (q.num<0)))&&(fU (tW (aO q.num.natAbs))&&_))=false
  have:fU (tW (aO q.num.natAbs))=false:=by unfold tW;cases List.map wc (aO q.num.natAbs)<;>rfl
  rw[this];rfl
theorem bHJ{s:VS}{X v2:TV}{u l2:List Rat}(h1:Ow s X u)(h2:Ow s v2 l2)(hd:∀k o n z k' o' n' z',X= .ow k o n z->v2= .ow k' o' n' z'->k≠k')(b1:u.length<=1000)(b2:l2.length<=1000):(dM s [X,v2]).map (nQ true)=some (.tp [tP u,tP l2],false):=by
 have close2:∃t s',cX cK s [v2]=some ([t],s')/\jN t=tP l2/\Rest s v2 s':=by
  rcases h2 with ⟨rfl,rfl⟩|⟨_,k,rfl,A,J⟩
  ·exact⟨.em,s,sF (Can.cons cP.em Can.nil).1 (by simp only[bW,dA];decide),rfl,Rest.refl _ _⟩
  ·obtain⟨t,s',w,G,e3⟩:=gD.close (E:=bP) (n:=99999998) (.inr ⟨k,rfl,A,J⟩) (by show l2.length*9+1<=99999998;omega)
   refine⟨t,s', ?_,G,e3⟩
   show cX (99999999+1) s [_]=_
   simp only[cX]
   rw[show(4:Nat)=bP.sz from rfl,w]
   rfl
 obtain⟨t,s',w,G,e3⟩:=close2
 rcases h1 with ⟨rfl,rfl⟩|⟨d,k,rfl,A,J⟩
 ·have:cX cK s [.em,v2]=some ([.em,t],s'):=by
   have e4:cX 99999999 s [v2]=some ([t],s'):=by
    rcases h2 with ⟨rfl,rfl⟩|⟨_,k,rfl,A,J⟩
    ·have:=(mY 99999999).2 (s:=s) (l:=[TV.em]) (Can.cons cP.em Can.nil).1 (by simp only[bW,dA];decide)
     rw[this]
     have h3:=sF (s:=s) (l:=[TV.em]) (Can.cons cP.em Can.nil).1 (by simp only[bW,dA];decide)
     rw[h3]at w
     exact w
    ·obtain⟨t',b4,f1,f2,f3⟩:=gD.close (E:=bP) (n:=99999997) (.inr ⟨k,rfl,A,J⟩) (by show l2.length*9+1<=99999997;omega)
     have g1:=aIy (E:=bP) (n:=99999997) A J (by show l2.length*9+1<=99999997;omega)
     have g2:=aIy (E:=bP) (n:=99999998) A J (by show l2.length*9+1<=99999998;omega)
     have L:cX (99999999+1) s [.ow k 0 l2.length 4]=some ([t],s'):=w
     simp only[cX]at L
     rw[show(4:Nat)=bP.sz from rfl,g2]at L
     show cX (99999998+1) s [_]=_
     simp only[cX]
     rw[show(4:Nat)=bP.sz from rfl,g1]
     exact L
   show((fE 99999999 s TV.em).bind fun p=>(cX 99999999 p.2 [v2]).map fun q=>(p.1::q.1,q.2))=_
   rw[(mY 99999999).1 (t:=TV.em) rfl (by simp only[dA];decide)]
   simp only[bIS]
   rw[e4]
   rfl
  have hv:dM s [.em,v2]=(cX cK s [.em,v2]).map fun p=>(.tp (cL p.1),false):=rfl
  rw[hv,this]
  simp only[bJk,cL,G]
  rfl
 ·have Y:(bP.row u).length=u.length*4:=bP.row_len u
  have hc:=sF (s:=s) (bP.row_can u).1 (bIO (bP.row_siz u) (by show u.length*9+1<=100000000;omega))
  have l':s'.ob k=⟨0,bP.row u⟩:=by rw[e3.2 k A (fun o n z e=>hd k 0 u.length 4 k o n z rfl e rfl),J]
  simp only[dM,J]
  rw[if_pos ⟨trivial,A,trivial,Y,by decide,bFB d⟩,hc]
  simp only[bIS,w,l',if_true,(bP.row_can u).2,cL,G,bJk]
  show some (nQ true (TV.tp [.im 4 (bP.row u),tP l2],true))=_
  rw[show tP u= .im 4 (bP.row u) by
   cases u with
   |nil=>exact absurd rfl d
   |cons a l=>exact aAI (EC.row_ne (E:=bP))]
  rfl
theorem bBb:bQ PG 138 f138 [5,4,53,56,54,55,29] []=true:=by kernel_rfl
theorem bDB{z:Int}{n:Nat}(h:max 0 z=(n:Int)):vmm .geq [.int .i64 ((0:Nat):Int),.int .i64 z]=some (.int .i64 (n:Int)):=by
 show(if IntKind.i64=IntKind.i64 then some (TV.int .i64 (max ((0:Nat):Int) z))else none)=_
 rw[if_pos rfl,show((0:Nat):Int)=0 from rfl,h]
set_option maxHeartbeats 1000000 in
theorem bCk{a b:List Rat}{ka kb:Nat}(Z:WD ka a)(I:WD kb b)(M:a.length<=400)(N:b.length<=400)(B:tr b≠ [])(D:(tr b).length<=(tr a).length)(A:ka+((tr a).length-(tr b).length)*(kb+1)<=224000)(O:kb<=224000):VX (m+11) 138 [tP a,tP b]=some (.tp [tP (pI a b),tP (fG a b)],false):=by
 have m':=fK a
 have p':=fK b
 have q':0<(tr b).length:=bJK.2 B
 have r':tr a≠ []:=fun e=>by rw[e]at D;exact absurd (bIP q' D) (by decide)
 have pa:PS 9000000 a:=Z.ps (by omega) (by omega)
 have pb:PS 9000000 b:=I.ps (by omega) (by omega)
 obtain⟨n,hn⟩:∃n,(tr a).length+1=n+(tr b).length:=⟨(tr a).length+1-(tr b).length,by omega⟩
 have a':0<n:=by omega
 obtain⟨X,s1, -,q1,o1⟩:=aAb (orc:=VX (m+10)) (iG b) (iZ b) (xM (m:=m+6) pb) eA
 rcases o1 with ⟨K,_⟩|⟨_,rfl,rfl⟩
 ·exact absurd K B
 obtain⟨v2,C, -,W,o2⟩:=aAb (orc:=VX (m+10)) (iG a) (iZ a) (xM (m:=m+6) pa) (eA.new (bP.row (tr b)))
 rcases o2 with ⟨K,_⟩|⟨_,rfl,rfl⟩
 ·exact absurd K r'
 obtain⟨v3,s3, -,q3,o3⟩:=aAb (orc:=VX (m+10)) (xT .i64 (n:Int)) (aAy _ _) (bDT (m:=m+4) a' (by omega)) ((eA.new (bP.row (tr b))).new (bP.row (tr a)))
 have d:bIQ n (0:Rat)≠ []:=fun e=>by have:=congrArg bKn e;rw[bJz]at this;simp at this;omega
 rcases o3 with ⟨K,_⟩|⟨_,rfl,rfl⟩
 ·exact absurd K d
 rw[bJz]at q3
 have u':uH (tr b) n (yN a b) ka kb n (bIQ n 0) (tr a):=uH.start Z hn
 have hm:(tr a).length-(tr b).length+1=n:=by omega
 have hx:=bDB (z:=(n:Int)) (n:=n) (by omega)
 have v':iz n=((n-1:Nat):Int):=vG a'
 have w':(tr a).length-(tr b).length=n-1:=by omega
 have x':n-1+1=n:=by omega
 refine jP rfl func138 bBb rfl ?_
 simp only[f138,N1,bD,bJ,bM,bL,bH,zB,zG]
 simp (disch:=first|rfl|omega)only[S1,aN,aC,aE,aM,aJ,zB,zD,vJ 182 rfl,q1,W,vJ 218 rfl,q3,aFm,w',x',hx]
 have b':∀t,t+1<=n->ka+t*(kb+1)<=224000:=fun t ht=>by
  have:=Nat.mul_le_mul_right (kb+1) (show t<=n-1 by omega)
  rw[show(tr a).length-(tr b).length=n-1 by omega]at A
  omega
 have c':∀t,t<=n->ka+t*(kb+1)<=288000000:=fun t ht=>by
  have:=Nat.mul_le_mul (show t<=401 by omega) (show kb+1<=224001 by omega)
  omega
 have wtb:=I.tr
 have ntb:NF (tr b):= .tr b
 have y':PS 7000 (tr b):=wtb.ps (by omega) (by omega)
 have a0:(tr a).length<=400:=by omega
 clear q1 W q3 pa pb Z I
 refine .loop (fun k e s=>∃q r,3<=s.nxt/\s.ob 0=⟨0,bP.row (tr b)⟩/\s.ob 1=⟨0,bP.row r⟩/\s.ob 2=⟨0,bP.row q⟩/\e 1=some (.ow 0 0 (tr b).length 4)/\e 6=some (.ow 1 0 (tr a).length 4)/\e 7=some (.ow 2 0 n 4)/\e 8=some (.int .i64 (iz k))/\k<=n/\uH (tr b) n (yN a b) ka kb k q r/\∀j,FR 14000 (co q j)) n ?_ (dC (by omega)) ?_
 ·refine⟨bIQ n 0,tr a,bIK _,rfl,rfl,rfl, ?_, ?_, ?_, ?_,bIK _,u',fun j=>by rw[aFQ];exact .zero (by decide)⟩<;>simp (disch:=first|rfl|omega)only[S1,zB]
 ·rintro k e s ⟨q,r,sn,P,s1,C,w,Q,R,S,b5,T,hq⟩
  have lr:r.length=(tr a).length:=by have:=T.lr;omega
  have lq:=T.lq
  by_cases h0:k=0
  ·subst h0
   have hd:=T.done B
   have a2:pI a b=tr q:=by rw[pI,hd]
   have a3:fG a b=tr r:=by rw[fG,hd]
   rw[a2,a3]
   have lbn:=T.lr
   have a4:gD bP s (.ow 2 0 n 4) q:= .inr ⟨2,by rw[lq];rfl,by omega,C⟩
   have P1:PS 9000000 q:=⟨by omega,fun x hx=>by
    obtain⟨j,_,rfl⟩:=aAt hx
    exact(hq j).mono (by decide)⟩
   obtain⟨X,u1,U, -,p1,R1,O1⟩:=aCO (orc:=VX (m+10)) (f:=182) (ts:=[]) a4 (by omega) Can.nil (by decide) (xM (m:=m+6) P1)
   have n1:=R1.1
   have k1:=O1.keep
   have z1:U.ob 1=⟨0,bP.row r⟩:=by rw[k1.2 1 (by omega),R1.2 1 (by omega) (fun o n z e=>by cases e),s1]
   have a5:gD bP U (.ow 1 0 (tr a).length 4) r:= .inr ⟨1,by rw[lr];rfl,by have:=k1.1;omega,z1⟩
   obtain⟨t,hw,ht⟩:=T.wd
   have P2:PS 9000000 r:=⟨by omega,fun x hx=>by
    obtain⟨j,_,rfl⟩:=aAt hx
    rw[←fF]
    exact zQ (hw.ps (k:=9000000) (by have:=c' t (by omega);omega) (by have:=fK r;omega)) (by decide) j⟩
   obtain⟨v2,u2,a6, -,p2,R2,O2⟩:=aCO (orc:=VX (m+10)) (f:=182) (ts:=[]) a5 (by omega) Can.nil (by decide) (xM (m:=m+6) P2)
   have n2:=R2.1
   have k2:=O2.keep
   have hv:=bHJ (s:=a6) (O1.later (fun j hj d=>by rw[k2.2 j (by omega),R2.2 j hj (fun o n z e=>d (by cases e;omega))]) (by have:=k1.1;have:=k2.1;omega) (by omega)) O2.ow (fun k o n z k' o' n' z' w G=>by
    rcases O1 with ⟨_,h,_⟩|⟨_,h,h'⟩
    ·rw[h]at w;cases w
    ·rcases O2 with ⟨_,g,_⟩|⟨_,g,_⟩
     ·rw[g]at G;cases G
     ·rw[h]at w;rw[g]at G
      cases w;cases G
      have:U.nxt=u1.nxt+1:=by rw[h'];rfl
      omega) (by have:=fK q;omega) (by have:=fK r;omega)
   simp (disch:=first|rfl|omega)only[S1,aC,aE,aM,aJ,zB,reduceCtorEq,Q,R,S,bJq,vJ 182 rfl,p1,p2]
   exact hv
  ·obtain⟨i,rfl⟩:∃i,k=i+1:=⟨k-1,by omega⟩
   have g1:decide (0<i+1)=true:=decide_eq_true (by omega)
   have hN:=T.next wtb ntb B (by omega)
   obtain⟨t,hw,ht⟩:=T.wd
   have hr:∀j,FR 7000 (co r j):=fun j=>by
    rw[←fF]
    exact zQ (hw.ps (k:=7000) (by have:=b' t (by omega);omega) (by have:=fK r;omega)) (by decide) j
   obtain⟨lb,y⟩:∃lb,(tr b).length=lb:=⟨_,rfl⟩
   have H:∀j,FR 7000 (co (tr b) j):=zQ y' (by decide)
   have F:co (tr b) (lb-1)≠0:=by rw[←y];exact ntb B
   obtain⟨c,hc⟩:∃c,c=co r (i+lb-1)/co (tr b) (lb-1):=⟨_,rfl⟩
   have fc:FR 14000 c:=by rw[hc];exact(hr _).div (H _) F (by decide)
   have d':i+lb-1<r.length:=by omega
   have e':lb-1<(tr b).length:=by omega
   have a7:i<q.length:=by omega
   have c1:=aSO (m:=m+1) (a:=co r (i+lb-1)) (b:=co (tr b) (lb-1)) ((hr _).mono (by decide)) ((H _).mono (by decide)) F
   rw[←hc]at c1
   have u:=aAH (l:=r) d'
   have l2:=aBT (l:=r) d'
   have l3:=aAH (l:=tr b) e'
   have l4:=aBT (l:=tr b) e'
   have l5:=aTg (l:=q) (q:=c) a7
   rw[aA8]at l5
   rw[y]at hN
   rw[←hc]at hN
   have fi:i+lb-1<(tr a).length:=by omega
   have fs:i+lb<=1000:=by omega
   have b3:0<lb:=by omega
   clear b' c' hw ht A D hn m' p' M N a0 O
   simp (disch:=first|rfl|omega)only[S1,aN,aC,aE,aM,aJ,zB,reduceCtorEq,zD,aY,w,Q,R,S,P,s1,C,bIR,bJw,aFm,aEI,y,u,l2,l3,l4,l5,c1 _]
   refine .up (fun t e s=>3<=s.nxt/\s.ob 0=⟨0,bP.row (tr b)⟩/\s.ob 1=⟨0,bP.row (YtmjoaipkaddkbaaGreatDoor.fQ r (tr b) i c t)⟩/\s.ob 2=⟨0,bP.row (q.set i c)⟩/\e 1=some (.ow 0 0 lb 4)/\e 6=some (.ow 1 0 (tr a).length 4)/\e 7=some (.ow 2 0 n 4)/\e 8=some (.int .i64 (i:Nat))/\e 53=some (.ow 0 0 lb 4)/\e 54=some (.int .i64 (lb:Nat))/\e 55=some (.int .i64 (t:Nat))) lb ?_ (dC (by omega)) ?_
   ·refine⟨?_, ?_, ?_, ?_, ?_, ?_, ?_, ?_, ?_, ?_, ?_⟩<;>first|(simp (disch:=first|rfl|omega)only[S1,zB,w,Q,R,S,sn,P,s1,C,y];done)|(simp (disch:=first|rfl|omega)only[S1,zB,S,s1];rfl)
   ·rintro t e s ht ⟨sn,P,s1,C,w,Q,R,S,f',g',i'⟩
    have b0:(0==s.nxt)=false:=by rw[beq_eq_false_iff_ne];omega
    have b1:(1==s.nxt)=false:=by rw[beq_eq_false_iff_ne];omega
    have b2:(2==s.nxt)=false:=by rw[beq_eq_false_iff_ne];omega
    by_cases V:t<lb
    ·have g2:decide (t<lb)=true:=decide_eq_true V
     have b6:=YtmjoaipkaddkbaaGreatDoor.aIb r (tr b) i c t
     have h1:t<(tr b).length:=by omega
     have h2:i+t<(YtmjoaipkaddkbaaGreatDoor.fQ r (tr b) i c t).length:=by omega
     have h3:i<(q.set i c).length:=by rw[bJX];omega
     have j':co (YtmjoaipkaddkbaaGreatDoor.fQ r (tr b) i c t) (i+t)=co r (i+t):=by rw[YtmjoaipkaddkbaaGreatDoor.aQL (by omega),if_neg (by omega)]
     have a8:co (q.set i c) i=c:=by rw[YtmjoaipkaddkbaaGreatDoor.aSC,if_pos ⟨rfl,by omega⟩]
     have c2:=aJV (m:=m+1) (a:=c) (b:=co (tr b) t) (fc.mono (by decide)) ((H t).mono (by decide))
     have c3:=bG4 (m:=m) (a:=co r (i+t)) (b:=c*co (tr b) t) ((hr _).mono (by decide)) (fc.mul ((H t).mono (by decide)) (by decide))
     have u:=aAH (l:=tr b) h1
     have l2:=aBT (l:=tr b) h1
     have l3:=aAH (l:=YtmjoaipkaddkbaaGreatDoor.fQ r (tr b) i c t) h2
     have l4:=aBT (l:=YtmjoaipkaddkbaaGreatDoor.fQ r (tr b) i c t) h2
     rw[j']at l4
     have l5:=aAH (l:=q.set i c) h3
     have l6:=aBT (l:=q.set i c) h3
     rw[a8]at l6
     have l7:=aTg (l:=YtmjoaipkaddkbaaGreatDoor.fQ r (tr b) i c t) (q:=co r (i+t)-c*co (tr b) t) h2
     rw[aA8]at l7
     have a9:(YtmjoaipkaddkbaaGreatDoor.fQ r (tr b) i c t).set (i+t) (co r (i+t)-c*co (tr b) t)=YtmjoaipkaddkbaaGreatDoor.fQ r (tr b) i c (t+1):=by rw[YtmjoaipkaddkbaaGreatDoor.fQ,j']
     rw[a9]at l7
     have fit:i+t<(tr a).length:=by omega
     have fin:i<n:=by omega
     simp (disch:=first|rfl|omega)only[S1,aC,aE,aM,aJ,zB,reduceCtorEq,zD,zH,aY,w,Q,R,S,f',g',i',P,s1,C,b0,b1,b2,g2,aEI,u,l2,l3,l4,l5,l6,l7,c2 _,c3 _]
     exact⟨V,by omega⟩
    ·have g2:decide (t<lb)=false:=decide_eq_false V
     obtain rfl:t=lb:=by omega
     simp (disch:=first|rfl|omega)only[S1,aC,aE,aM,aJ,zB,zC,reduceCtorEq,w,Q,R,S,g',i',sn,P,s1,C,g2]
     exact⟨i,bIZ _,_,_,rfl,rfl,rfl,by omega,hN,fun j=>by
      rw[YtmjoaipkaddkbaaGreatDoor.aSC];split
      ·exact fc
      ·exact hq j⟩
theorem aIY{a b:List Rat}{ka kb:Nat}(Z:WD ka a)(I:WD kb b)(M:a.length<=400)(N:b.length<=400)(B:tr b≠ [])(D:(tr b).length<=(tr a).length)(A:ka+((tr a).length-(tr b).length)*(kb+1)<=224000)(O:kb<=224000):CC (VX (m+11)) 138 [tP a,tP b] (.tp [tP (pI a b),tP (fG a b)]):= .of (vD a b) (vA a b) (bCk Z I M N B D A O)
end
section
variable {m:Nat}
theorem bDv(l l':List Rat)(e:Int):Can [tP l,tP l',.int .i64 e]:=Can.cons (sY l) (Can.cons (sY l') (Can.cons (cP.int _ _) Can.nil))
theorem aZq{s:VS}{l l':List Rat}{e:Int}:dM s [tP l,tP l',.int .i64 e]=some (.tp [tP l,tP l',.int .i64 e],false):=aBy (bDv l l' e) (by simp only[bW,uY,dA];decide)
theorem bFw{a b c:TV}:nQ true (.tp [a,b,c],false)=(.tp [a,b,c],false):=rfl
theorem aWh:bQ PG 208 f208 [6,5,4] []=true:=by kernel_rfl
theorem aYp{a b:List Rat}{ka kb:Nat}(o:WD ka a)(i:WD kb b)(d:a.length<=400)(h:b.length<=400)(j:tr b≠ [])(r:(tr b).length<=(tr a).length)(w:ka+((tr a).length-(tr b).length)*(kb+1)<=224000)(t:kb<=224000):VX (m+12) 208 [tP a,tP b]=some (.tp [tP (pI a b),tP (fG a b),.int .i64 ((0:Nat):Int)],false):=by
 have y:0<(tr b).length:=bJK.2 j
 have c1:=aI4 (m:=m+6) (l:=b) (i.ps (by omega) (by omega))
 rw[vG y]at c1
 have c2:=aIY (m:=m) o i d h j r w t
 refine jP rfl func208 aWh rfl ?_
 simp only[f208,N1,bD,bJ,bM,bL,bH,zB,zG]
 simp (disch:=first|rfl|omega)only[S1,aC,aE,aM,aJ,zB,reduceCtorEq,zD,aY,vJ 90 rfl,c1 _,bJQ,vJ 138 rfl,c2 _,aZq]
theorem aYw{a b:List Rat}{ka kb:Nat}(o:WD ka a)(i:WD kb b)(d:a.length<=400)(h:b.length<=400)(j:tr b≠ [])(r:(tr b).length<=(tr a).length)(w:ka+((tr a).length-(tr b).length)*(kb+1)<=224000)(t:kb<=224000):CC (VX (m+12)) 208 [tP a,tP b] (.tp [tP (pI a b),tP (fG a b),.int .i64 ((0:Nat):Int)]):= .of (vD a b) (vA a b) (aYp o i d h j r w t)
theorem bBD:bQ PG 54 f54 [4] []=true:=by kernel_rfl
theorem bDI{a b:List Rat}{k:Nat}(o:WD k a)(i:WD k b)(d:a.length<=400)(h:b.length<=400)(v:(tr b).length<(tr a).length)(z:(k+1)*3^((tr a).length-1)<=224000):VX (m+12) 54 [tP a,tP b]=some (tP (fY a b),false):=by
 have w:k<=224000:=bIO (bIO (bKq k) (bLh _ (Nat.pow_pos (by decide)))) z
 have f1:=aBu (m:=m) (a:=a) (o.ps (by omega) (by omega))
 have f2:=aBu (m:=m) (a:=b) (i.ps (by omega) (by omega))
 have la:=kU a
 have lb:=kU b
 have G:=fK a
 refine jP rfl func54 bBD rfl ?_
 simp only[f54,N1,bD,bJ,bM,bL,bH,zB,zG]
 simp (disch:=first|rfl|omega)only[S1,aC,aE,aM,aJ,zB,zD,vJ 134 rfl,f1 _,f2 _]
 refine .loop (fun n e s=>∃p q f,s=eA/\e 0=some (tP p)/\e 1=some (tP q)/\pV f p q=fY a b/\NF p/\NF q/\q.length<f/\q.length<p.length/\p.length<=(tr a).length/\WD ((k+1)*3^((tr a).length-p.length)-1) p/\WD ((k+1)*3^((tr a).length-p.length)-1) q/\n=q.length) (bK b).length ?_ (dC (by have:=fK b;omega)) ?_
 ·refine⟨bK a,bK b,(bK b).length+1,rfl, ?_, ?_,rfl,.pmonic a,.pmonic b,bIZ _,by omega,by omega, ?_, ?_,rfl⟩
  ·simp (disch:=first|rfl|omega)only[S1,zB]
  ·simp (disch:=first|rfl|omega)only[S1,zB]
  ·rw[la,bJV,bKg,Nat.mul_one];exact o.monic
  ·rw[la,bJV,bKg,Nat.mul_one];exact i.monic
 ·rintro n e s ⟨p,q,f,rfl,e0,C,D,np,nq,hf,H,E,wp,wq,rfl⟩
  obtain⟨f,rfl⟩:∃g,f=g+1:=⟨f-1,by omega⟩
  by_cases hc:0<q.length
  ·have h1:decide (0<q.length)=true:=decide_eq_true hc
   have u:q≠ []:=bJK.1 hc
   obtain⟨F,I,J⟩:=aBG wp wq np nq u H E (Nat.succ_le_succ (bIR k))
   have wk:∀x,1<=x->x<=(tr a).length->(k+1)*3^((tr a).length-x)-1<=224000:=fun x h1 h2=>by
    have:=bJ7 (k+1) (bJ9 (show 0<3 by decide) (show(tr a).length-x<=(tr a).length-1 by omega))
    omega
   obtain⟨A,B⟩:=aBf (a:=p) (b:=q) (by rw[nq.eq];exact u)
   rw[nq.eq]at A
   have wkp:=wk p.length (by omega) E
   have c1:=aIY (m:=m) (a:=p) (b:=q) wp wq (by omega) (by omega) (by rw[nq.eq];exact u) (by rw[np.eq,nq.eq];omega) (by rw[np.eq,nq.eq];omega) (by omega)
   have c2:=aBu (m:=m) (a:=fG p q) (F.ps (by have:=wk q.length (by omega) (by omega);omega) (by omega))
   simp (disch:=first|rfl|omega)only[S1,aN,aC,aE,aM,aJ,zB,aY,e0,C,h1,vJ 138 rfl,c1 _,vJ 134 rfl,c2 _]
   refine⟨(bK (fG p q)).length, ?_,q,bK (fG p q),f,rfl,rfl, ?_,nq,.pmonic _, ?_, ?_,by omega,I,F.monic,rfl⟩
   ·rw[kU,B.eq];exact A
   ·rw[←D,pV,if_neg u]
   ·rw[kU,B.eq];omega
   ·rw[kU,B.eq];exact A
  ·have h1:decide (0<q.length)=false:=decide_eq_false hc
   have u:q=[]:=bJA (by omega)
   simp (disch:=first|rfl|omega)only[S1,aN,aC,aE,aM,aJ,zB,reduceCtorEq,aY,e0,C,h1]
   rw[←D,pV,if_pos u]
theorem aPD{a b:List Rat}{k:Nat}(o:WD k a)(i:WD k b)(d:a.length<=400)(h:b.length<=400)(v:(tr b).length<(tr a).length)(z:(k+1)*3^((tr a).length-1)<=224000):CC (VX (m+12)) 54 [tP a,tP b] (tP (fY a b)):= .of (vD a b) (vA a b) (bDI o i d h v z)
end
section
variable {m:Nat}
theorem aZw:bQ PG 207 f207 [2] []=true:=by kernel_rfl
theorem bDn{a:List Rat}{k:Nat}(j:WD k a)(g:a.length<=400)(h2:2<=(tr a).length)(C:fY a (dU a)=[1])(y:(k+11)*3^((tr a).length-1)<=224000):VX (m+13) 207 [tP a]=some (tP (rZ a),false):=by
 have D:k+11<=224000:=bIO (bLh _ (Nat.pow_pos (by decide))) y
 have E:(k+11)*3<=224000:=bIO (bJ7 _ (show 3<=3^((tr a).length-1)from bJ9 (n:=3) (show 0<3 by decide) (show 1<=(tr a).length-1 by omega))) y
 have la:=kU a
 have ta:=fK a
 have t0:tr a≠ []:=fun e=>by rw[e]at h2;exact absurd h2 (by decide)
 have wm:=j.monic
 have f1:=aBu (m:=m+1) (a:=a) (j.ps (by omega) (by omega))
 have f2:=aJN (m:=m+2) (l:=bK a) (wm.ps (by omega) (by omega))
 have ld:=aBq (bK a)
 have f3:=aPD (m:=m) (a:=bK a) (b:=dU (bK a)) (wm.mono (show k<=k+10 by omega)) (wm.der (by omega)) (by omega) (by omega) (by rw[(NF.pmonic a).eq,(NF.pder _).eq];omega) (by rw[(NF.pmonic a).eq,la];exact y)
 rw[aHz a t0,C]at f3
 have t1:tr [(1:Rat)]=[1]:=NF.eq fun _=>by show(1:Rat)≠0;decide
 have f4:=aIY (m:=m+1) (a:=bK a) (b:=[1]) wm WD.one1 (by omega) (by decide) (by rw[t1];simp) (by rw[(NF.pmonic a).eq,t1,la];show 1<=_;omega) (by rw[(NF.pmonic a).eq,t1,la];show k+((tr a).length-1)*2<=224000;omega) (by decide)
 rw[aIc,(NF.pmonic a).eq]at f4
 have f5:=aBu (m:=m+1) (a:=bK a) (wm.ps (by omega) (by omega))
 rw[aEo]at f5
 have A:decide (((bK a).length:Int)=0)=false:=decide_eq_false (by omega)
 have F:decide ((bK a).length=0)=false:=decide_eq_false (by omega)
 rw[aIF t0 C]
 clear j wm D E
 refine jP rfl func207 aZw rfl ?_
 simp only[f207,N1,bD,bJ,bM,bL,bH,zB,zG]
 simp (disch:=first|rfl|omega)only[S1,aN,aC,aE,aM,aJ,zB,reduceCtorEq,aY,A,vJ 134 rfl,f1 _,f5 _,vJ 91 rfl,f2 _,vJ 54 rfl,f3 _,vJ 138 rfl,f4 _]
theorem bBS{a:List Rat}{k:Nat}(j:WD k a)(g:a.length<=400)(h2:2<=(tr a).length)(C:fY a (dU a)=[1])(y:(k+11)*3^((tr a).length-1)<=224000):CC (VX (m+13)) 207 [tP a] (tP (rZ a)):= .of (iG a) (iZ a) (bDn j g h2 C y)
theorem bAt:bQ PG 210 f210 [2,31,25,17,20,18,19] []=true:=by kernel_rfl
theorem bDt{a:List Rat}{k:Nat}(j:WD k a)(g:a.length<=400)(D:k<=200000):VX (m+12) 210 [tP a]=some (tR (iQ a),false):=by
 have f1:=aBu (m:=m) (a:=a) (j.ps (by omega) (by omega))
 refine bY rfl func210 bAt rfl ?_
 simp only[f210,N1,bD,bJ,bM,bL,bH,zB,zG]
 simp (disch:=first|rfl|omega)only[S1,aN,aC,aE,aM,aJ,zB,aY,vJ 134 rfl,f1 _]
 have z0:=aBc (m:=m+6) (z:=((0:Nat):Int)) (by decide) (by decide)
 have la:=kU a
 have ta:=fK a
 unfold iQ
 refine cJ (fun e=> ?_) (fun e=> ?_)
 ·simp (disch:=first|rfl|omega)only[S1,aC,aE,aM,aJ,zB,reduceCtorEq,zD,zG,zH,aY,vJ 43 rfl,z0 _]
  rw[if_pos (of_decide_eq_true e)]
  rfl
 ·rw [if_neg (of_decide_eq_false e)]
  have I:2<=(bK a).length:=by have:=of_decide_eq_false e;omega
  simp (disch:=first|rfl|omega)only[S1,aN,aC,aE,aM,aJ,zB,zD,zG,aY,vJ 43 rfl,z0 _]
  have wp:=j.monic
  have pp:PS 7000 (bK a):=wp.ps (by omega) (by omega)
  have fm:∀i,FR 7000 (lV (bK a) i):=fun i=>qH (aI1 wp i) (by omega)
  refine .up (fun i e s=>2<=s.nxt/\s.ob 0=⟨0,[.b false,.nil,.b false,.nil]⟩/\(∃q,q=lV (bK a) i/\s.ob 1=⟨0,cR q⟩)/\e 2=some (.po 0 0)/\e 3=some (.po 1 0)/\e 17=some (tP ((bK a).take ((bK a).length-1)))/\e 18=some (.int .i64 (((bK a).length-1:Nat):Nat))/\e 19=some (.int .i64 (i:Nat))) ((bK a).length-1) ?_ (dC (by omega)) ?_
  ·refine⟨bIK _,rfl,⟨0,rfl,rfl⟩, ?_, ?_, ?_, ?_, ?_⟩<;>simp (disch:=first|rfl|omega)only[S1,zB,bLz,bIW,bJc (Nat.sub_le (bK a).length 1)]
  ·rintro i e s J ⟨sn,o,⟨q,hq,s1⟩,p,r,c,d,f⟩
   have fq:FR 7000 q:=by rw[hq];exact fm i
   have t:(0==s.nxt)=false:=by rw[beq_eq_false_iff_ne];omega
   have u:(1==s.nxt)=false:=by rw[beq_eq_false_iff_ne];omega
   have v:(s.nxt==0)=false:=by rw[beq_eq_false_iff_ne];omega
   have w:(s.nxt==1)=false:=by rw[beq_eq_false_iff_ne];omega
   by_cases hc:i<(bK a).length-1
   ·have h1:decide (i<(bK a).length-1)=true:=decide_eq_true hc
    have B:i<((bK a).take ((bK a).length-1)).length:=by rw[bIW];omega
    have G:co ((bK a).take ((bK a).length-1)) i=co (bK a) i:=by
     unfold co;rw[bJb,bJb,List.getElem?_take_of_lt hc]
    have vi:=lD B
    have vl:∀s,kD PG 78 s (.pi (bP.row ((bK a).take ((bK a).length-1))) (i*4))=some (tR (co (bK a) i)):=fun s=>by rw[←G];exact kX B
    have fc:FR 7000 (co (bK a) i):=pp.co (by omega)
    have c1:=aFz (m:=m+9) (fc.mono (k:=9000000) (by decide))
    have c2:=aJL (m:=m+7) (fc.mono (k:=9000000) (by decide))
    have fa:FR 7000 (mQ (co (bK a) i)):=⟨by rw[(aBb _).2];exact fc.1,by rw[(aBb _).1];exact fc.2⟩
    have c3:=aRU (m:=m+6) (a:=mQ (co (bK a) i)) (b:=q) (fa.mono (by decide)) (fq.mono (by decide))
    have h:lV (bK a) (i+1)=if 0<fW (mQ (co (bK a) i)-q)then mQ (co (bK a) i)else q:=by rw[lV,←hq]
    unfold mQ at c3 h
    simp (disch:=first|rfl|omega)only[S1,aC,aE,aM,aJ,zB,reduceCtorEq,zD,zH,aY,cR,c,d,f,h1,vi,vl,vJ 139 rfl,c1 _,aAi]
    refine cJ (fun H=> ?_) (fun H=> ?_)
    ·rw[if_pos (of_decide_eq_true H)]at c3 h
     simp (disch:=first|rfl|omega)only[S1,aC,aE,aM,aJ,zB,reduceCtorEq,zD,zH,aY,cR,r,s1,u,vJ 211 rfl,c2 _,vJ 55 rfl,c3 _,aFp]
     refine cJ (fun x=> ?_) (fun x=> ?_)
     ·rw[if_pos (of_decide_eq_true x)]at h
      simp (disch:=first|rfl|omega)only[S1,aC,aE,aM,aJ,zB,reduceCtorEq,zD,zH,aY,cR,p,r,c,d,f,o,s1,t,u]
      exact⟨hc,by omega,_,h.symm,rfl⟩
     ·rw[if_neg (of_decide_eq_false x)]at h
      simp (disch:=first|rfl|omega)only[S1,aC,aE,aM,aJ,zB,zH,cR,p,r,c,d,f,o,s1,t,u]
      exact⟨hc,by omega,_,h.symm,rfl⟩
    ·rw[if_neg (of_decide_eq_false H)]at c3 h
     simp (disch:=first|rfl|omega)only[S1,aC,aE,aM,aJ,zB,reduceCtorEq,zD,zH,aY,cR,r,s1,u,vJ 55 rfl,c3 _,aFp]
     refine cJ (fun x=> ?_) (fun x=> ?_)
     ·rw[if_pos (of_decide_eq_true x)]at h
      simp (disch:=first|rfl|omega)only[S1,aC,aE,aM,aJ,zB,reduceCtorEq,zD,zH,aY,cR,p,r,c,d,f,o,s1,t,u]
      exact⟨hc,by omega,_,h.symm,rfl⟩
     ·rw[if_neg (of_decide_eq_false x)]at h
      simp (disch:=first|rfl|omega)only[S1,aC,aE,aM,aJ,zB,zH,cR,p,r,c,d,f,o,s1,t,u]
      exact⟨hc,by omega,_,h.symm,rfl⟩
   ·have h1:decide (i<(bK a).length-1)=false:=decide_eq_false (by omega)
    obtain rfl:i=(bK a).length-1:=by omega
    have c1:=aBc (m:=m+6) (z:=((1:Nat):Int)) (by decide) (by decide)
    have c2:=aSj (m:=m+2) (a:=q) (b:=((((1:Nat):Int)):Rat)) (fq.mono (by decide)) ⟨aX.one (by decide),aX.one (by decide)⟩
    simp (disch:=first|rfl|omega)only[S1,aC,aE,aM,aJ,zB,reduceCtorEq,zD,zH,aY,cR,p,r,d,f,o,s1,h1,c1 _,c2 _]
    rw[hq]
    rfl
theorem bDP{a:List Rat}{k:Nat}(j:WD k a)(g:a.length<=400)(D:k<=200000):CC (VX (m+12)) 210 [tP a] (tR (iQ a)):= .of (iG a) (iZ a) (bDt j g D)
end
end Go.Proofs.YtmjoaipkaddkbaaGreatDoor.Ev