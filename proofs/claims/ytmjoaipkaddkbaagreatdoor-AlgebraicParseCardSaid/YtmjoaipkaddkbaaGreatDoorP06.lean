/- Part of a proof. -/
import Derived.Test.YtmjoaipkaddkbaaGreatDoorP05
noncomputable section
open Nat renaming reduceBEq → zB, reduceEqDiff → zC, reduceAdd → zD, reduceMul → zE, reduceSub → zF, reduceLT → zG, reduceLeDiff → zH
open Bool renaming false_eq_true→bJQ
open Int renaming lt_or_gt_of_ne→bNm,mul_neg→bM3,natCast_add→bMh,natCast_mul→bLa
open List renaming append_nil→bKQ,drop_append→bN9,drop_of_length_le→bLT,drop_zero→bJV,eq_nil_of_length_eq_zero→bKB,getD_eq_getElem?_getD→bK0,length→bKU,length_append→bJW,length_cons→bJN,length_nil→bKf,length_pos_iff→bKz,length_replicate→bKu,length_set→bKT,length_take→bJO,nil_append→bKA,replicate→bJL,take_append_of_le_length→bN3,take_of_length_le→bJU
open Nat renaming add_sub_cancel→bKs,div_add_mod→bL2,div_eq_of_lt→bLl,div_le_self→bLb,gcd_zero_right→bNh,le_mul_of_pos_right→bM9,le_of_lt→bKb,le_refl→bJE,le_succ→bLw,le_trans→bJH,lt_irrefl→bKl,lt_of_le_of_lt→bK9,lt_of_lt_of_le→bJK,lt_succ_self→bJT,min_eq_left→bK7,mod_eq_of_lt→bKg,mod_lt→bK6,mul_le_mul_left→bK5,not_lt_zero→bKM,pow_le_pow_right→bK2,pow_zero→bLe,sub_self→bKS,sub_zero→bKW,zero_add→bKi,zero_le→bJJ,zero_lt_one→bLU,zero_mul→bL8
open Option renaming bind_some→bJM,map_some→bKe
set_option maxRecDepth 10000000
open Go
open Go.Proofs.Tryz
namespace Go.Proofs.YtmjoaipkaddkbaaGreatDoor
namespace Ev
section
variable {m:Nat}
theorem aXL{a b:Nat}(h:0<b)(w:(aO a).length<=2000000)(g:(aO b).length<=2000000):VX (m+4) 177 [tW (aO a),tW (aO b)]=some (.tp [tW (aO (a/b)),tW (aO (a%b))],false):=by
 obtain⟨n,hn⟩:∃n,(aO a).length=n:=⟨_,rfl⟩
 by_cases c:a<b
 ·have d:=aBy (m:=m) (a:=a) (b:=b) (by omega)
  rw[if_pos c]at d
  have hc:=aFE (m:=m+2) (xs:=aO a) (by omega)
  refine bX rfl func177 aF8 rfl ?_
  simp only[f177,N1,bC,bF,bH,bG,bE,zB,zG]
  simp (disch:=first|rfl|omega)only[S1,aC,aE,aM,aJ,zB,reduceCtorEq,zD,vJ 180 rfl,d _,aF7,vJ 93 rfl,hc _]
  rw[aQS,bLl c,bKg c,gH]
 by_cases i:2<n
 ·by_cases f:(aO b).length=1
  ·have d:=aBy (m:=m) (a:=a) (b:=b) (by omega)
   rw[if_neg c]at d
   obtain⟨r,j⟩:∃r:Nat,(if b<a then(1:Int)else 0)=(r:Int):=by
    split
    ·exact⟨1,rfl⟩
    ·exact⟨0,rfl⟩
   rw[j]at d
   have vb:=jE (cU b)
   rw[cO,f]at vb
   have o:(aO b).getD 0 0=b:=by
    have:=cO b
    cases y:aO b with
    |nil=>rw[y]at f;cases f
    |cons x l=>
     rw[y]at this f
     simp only[bJN,Nat.add_eq_right,List.length_eq_zero_iff]at f
     subst f
     simpa [val]using this
   have z:=bCL (m:=m) (xs:=aO a) (n:=b) (by omega) (cU a) h (by omega)
   rw[cO]at z
   have g1:decide (n<=2)=false:=ai (by omega)
   refine bX rfl func177 aF8 rfl ?_
   simp only[f177,N1,bC,bF,bH,bG,bE,zB,zG]
   simp (disch:=first|rfl|omega)only[S1,aN,aC,aE,aM,aJ,zB,reduceCtorEq,zD,vJ 180 rfl,d _,bKM,hn,f,g1,o,vJ 244 rfl,z _,aDO]
  ·have h0:(aO b).length≠0:=fun e=>by
    have:=tA.1 (bKB e)
    omega
   obtain⟨p,A⟩:∃p,(aO b).length=p+2:=⟨(aO b).length-2,by omega⟩
   exact bDY c i hn A (by omega)
 ·have d:=aBy (m:=m) (a:=a) (b:=b) (by omega)
  rw[if_neg c]at d
  obtain⟨r,j⟩:∃r:Nat,(if b<a then(1:Int)else 0)=(r:Int):=by
   split
   ·exact⟨1,rfl⟩
   ·exact⟨0,rfl⟩
  rw[j]at d
  have q:(aO b).length<=2:=by have:=oX (Nat.le_of_not_lt c);omega
  have va:=jE (cU a)
  rw[cO]at va
  have va2:a<18446744073709551616:=bJK va (bK2 (n:=4294967296) (by decide) (show(aO a).length<=2 by omega))
  have s:=aFj (m:=m+2) (k:=a) (by omega)
  have t:=aFj (m:=m+2) (k:=b) q
  have vb2:b<18446744073709551616:=by omega
  have u:=aD2 (m:=m+1) (n:=a/b) (bK9 (bLb _ _) va2)
  have v:=aD2 (m:=m+1) (n:=a%b) (bK9 (Nat.mod_le _ _) va2)
  have g1:decide (n<=2)=true:=ak (by omega)
  refine bX rfl func177 aF8 rfl ?_
  simp only[f177,N1,bC,bF,bH,bG,bE,zB,zG]
  simp (disch:=first|rfl|omega)only[S1,aN,aC,aE,aM,aJ,zB,reduceCtorEq,zD,vJ 180 rfl,d _,bKM,hn,g1,vJ 178 rfl,s _,t _,u _,v _,aDO]
theorem aOb{a b:Nat}(h:0<b)(w:(aO a).length<=2000000)(g:(aO b).length<=2000000):CC (VX (m+4)) 177 [tW (aO a),tW (aO b)] (.tp [tW (aO (a/b)),tW (aO (a%b))]):= .of (vT _ _) (by simp only[bT,fK];decide) (aXL h w g)
end
end Ev
theorem bB6{z w:Int}(c:w≠0)(h:decide (z<0)=decide (w<0)):z.fdiv w=((z.natAbs/w.natAbs:Nat):Int)/\z.fmod w=(if w<0 then-((z.natAbs%w.natAbs:Nat):Int)else((z.natAbs%w.natAbs:Nat):Int)):=by
 have e:=bL2 z.natAbs w.natAbs
 have v:=bK6 z.natAbs (show 0<w.natAbs by omega)
 generalize z.natAbs/w.natAbs=q at*
 generalize z.natAbs%w.natAbs=r at*
 have g:(w.natAbs:Int)*(q:Int)+(r:Int)=(z.natAbs:Int):=by rw[←bLa,←bMh,e]
 rw[decide_eq_decide]at h
 rcases bNm c with h1|h1
 ·rw[if_pos h1]
  refine(Int.fdiv_fmod_unique' h1).2 ⟨?_, ?_, ?_⟩
  ·rw[show(w.natAbs:Int)= -w by omega,show(z.natAbs:Int)= -z by omega,Int.neg_mul]at g
   omega
  ·omega
  ·omega
 ·rw[if_neg (by omega)]
  refine(Int.fdiv_fmod_unique h1).2 ⟨?_, ?_, ?_⟩
  ·rw[show(w.natAbs:Int)=w by omega,show(z.natAbs:Int)=z by omega]at g
   omega
  ·omega
  ·omega
theorem bBX{z w:Int}(c:w≠0)(h:decide (z<0)≠decide (w<0)):(z.natAbs%w.natAbs=0->z.fdiv w= -((z.natAbs/w.natAbs:Nat):Int)/\z.fmod w=0)/\(z.natAbs%w.natAbs≠0->z.fdiv w= -((z.natAbs/w.natAbs+1:Nat):Int)/\z.fmod w=(if w<0 then-((w.natAbs-z.natAbs%w.natAbs:Nat):Int)else((w.natAbs-z.natAbs%w.natAbs:Nat):Int))):=by
 have e:=bL2 z.natAbs w.natAbs
 have v:=bK6 z.natAbs (show 0<w.natAbs by omega)
 generalize z.natAbs/w.natAbs=q at*
 generalize z.natAbs%w.natAbs=r at*
 have g:(w.natAbs:Int)*(q:Int)+(r:Int)=(z.natAbs:Int):=by rw[←bLa,←bMh,e]
 rw[ne_eq,decide_eq_decide]at h
 rcases bNm c with h1|h1
 ·have i:¬z<0:=fun i=>h ⟨fun _=>h1,fun _=>i⟩
  rw[show(w.natAbs:Int)= -w by omega,show(z.natAbs:Int)=z by omega,Int.neg_mul]at g
  refine⟨fun h0=>(Int.fdiv_fmod_unique' h1).2 ⟨?_,by omega,by omega⟩,fun h0=> ?_⟩
  ·subst h0;rw[bM3];omega
  ·rw[if_pos h1]
   refine(Int.fdiv_fmod_unique' h1).2 ⟨?_,by omega,by omega⟩
   rw[bM3,bMh,Int.mul_add,Int.natCast_one,Int.mul_one];omega
 ·have i:z<0:=by
   by_cases i:z<0
   ·exact i
   ·exact absurd ⟨fun x=>by omega,fun y=>by omega⟩ h
  rw[show(w.natAbs:Int)=w by omega,show(z.natAbs:Int)= -z by omega]at g
  refine⟨fun h0=>(Int.fdiv_fmod_unique h1).2 ⟨?_,by omega,by omega⟩,fun h0=> ?_⟩
  ·subst h0;rw[bM3];omega
  ·rw[if_neg (by omega)]
   refine(Int.fdiv_fmod_unique h1).2 ⟨?_,by omega,by omega⟩
   rw[bM3,bMh,Int.mul_add,Int.natCast_one,Int.mul_one];omega
namespace Ev
section
variable {m:Nat}
theorem bJa(k:Nat):sg false k=k:=rfl
theorem aUz(k:Nat):sg true k= -(k:Int):=rfl
theorem aKG(w:Int)(k:Nat):sg (decide (w<0)) k=if w<0 then-(k:Int)else k:=by
 by_cases h:w<0
 ·rw[ak h,if_pos h];rfl
 ·rw[ai h,if_neg h];rfl
theorem aF6:aO 1=[1]:=by rw[aO];simp [gH]
theorem aX4:bO PG 135 f135 [6,5,4,35] []=true:=by kernel_rfl
theorem aO0{z w:Int}(h:aX 900000 z.natAbs)(h':aX 900000 w.natAbs)(c:w≠0):VX (m+6) 135 [tI z,tI w]=some (.tp [tI (z.fdiv w),tI (z.fmod w),.int .i64 ((0:Nat):Int)],false):=by
 have C:=h.len
 have l2:=h'.len
 have t1:=pC (m:=m+4) (xs:=aO z.natAbs) (by omega)
 have t2:=pC (m:=m+4) (xs:=aO w.natAbs) (by omega)
 rw[kJ]at t1 t2
 have l:0<w.natAbs:=by omega
 have o:=aOb (m:=m+1) (a:=z.natAbs) (b:=w.natAbs) l (by omega) (by omega)
 have fq:aX 900000 (z.natAbs/w.natAbs):=h.le (bLb _ _)
 have fr:aX 900000 (z.natAbs%w.natAbs):=h'.le (bKb (bK6 _ l))
 have p:decide ((aO w.natAbs).length=0)=false:=ai fun e=>by have:=tA.1 (bKB e);omega
 refine bX rfl func135 aX4 rfl ?_
 simp only[f135,N1,bC,bF,bH,bG,bE,zB,zG]
 cases j:(decide (z<0)==decide (w<0))
 ·have f:decide (z<0)≠decide (w<0):=by simpa using j
  obtain⟨f1,f2⟩:=bBX c f
  by_cases h0:z.natAbs%w.natAbs=0
  ·obtain⟨g1,g2⟩:=f1 h0
   have s1:=oB (m:=m+3) (n:=true) (k:=z.natAbs/w.natAbs) (bK9 fq.len (by decide))
   have d:=oB (m:=m+3) (n:=decide (w<0)) (k:=z.natAbs%w.natAbs) (bK9 fr.len (by decide))
   rw[aUz,←g1]at s1
   rw[aKG,show(if w<0 then-((z.natAbs%w.natAbs:Nat):Int)else((z.natAbs%w.natAbs:Nat):Int))=z.fmod w by rw[g2,h0];simp]at d
   have hB:decide (0<(aO (z.natAbs%w.natAbs)).length)=false:=ai fun e=>xM.1 e h0
   simp (disch:=first|rfl|omega)only[S1,aN,aC,aE,aM,aJ,zB,reduceCtorEq,zD,zG,zH,TI,aQ,aAF,kJ,p,vJ 177 rfl,o _,wU,aC2,j,hB,s1 _,d _,aDq]
  ·obtain⟨g1,g2⟩:=f2 h0
   have A:=aRb (m:=m+3) (a:=z.natAbs/w.natAbs) (b:=1) (bK9 fq.len (by decide)) (by rw[aF6];decide)
   rw[aF6]at A
   have t:∀(s:VS) (k:Nat),k=s.nxt->fF (VX (m+5)) 215 [tW (aO (z.natAbs/w.natAbs)),.ow k 0 1 1] (s.new [.int .u32 ((1:Nat):Int)])=some (tW (aO (z.natAbs/w.natAbs+1)),s.new [.int .u32 ((1:Nat):Int)]):=fun s k B=>by
    subst B
    refine aOT (zs:=[1]) (off:=0) (len:=1) ?_ (bJT _) (by rw[gY,beq_self_eq_true];rfl) (by decide) (by decide)
    rw[show([1].drop 0).take 1=aO 1 by rw[aF6];rfl,aQ7 (m:=m+3) (bK9 fq.len (by decide)) (by rw[aF6];decide)]
    exact .fr
   have fq1:aX 900001 (z.natAbs/w.natAbs+1):=fq.add (aX.one (by decide))
   have u:=aJ2 (m:=m+3) (xs:=aO w.natAbs) (ys:=aO (z.natAbs%w.natAbs)) (by omega) (oX (bKb (bK6 _ l))) (cU _) (cU _) (by rw[cO,cO];exact bKb (bK6 _ l))
   rw[cO,cO]at u
   have s1:=oB (m:=m+3) (n:=true) (k:=z.natAbs/w.natAbs+1) (bK9 fq1.len (by decide))
   have d:=oB (m:=m+3) (n:=decide (w<0)) (k:=w.natAbs-z.natAbs%w.natAbs) (bK9 (h'.le (Nat.sub_le _ _)).len (by decide))
   rw[aUz,←g1]at s1
   rw[aKG,←g2]at d
   have hB:decide (0<(aO (z.natAbs%w.natAbs)).length)=true:=ak (xM.2 h0)
   simp (disch:=first|rfl|omega)only[S1,aN,aC,aE,aM,aJ,aD,zB,reduceCtorEq,zD,zE,zG,zH,TI,aQ,aAF,kJ,p,vJ 177 rfl,o _,wU,aC2,j,hB,aCK,vJ 215 rfl,t ((((dZ.new [.b (decide (z<0)),tW (aO z.natAbs)]).new [.b (decide (w<0)),tW (aO w.natAbs)]).new [.b false,.nil]).new [.b false,.nil]) 4 rfl,vJ 216 rfl,u _,s1 _,d _,aDq]
 ·have f:decide (z<0)=decide (w<0):=by simpa using j
  obtain⟨g1,g2⟩:=bB6 c f
  have s1:=oB (m:=m+3) (n:=false) (k:=z.natAbs/w.natAbs) (bK9 fq.len (by decide))
  have d:=oB (m:=m+3) (n:=decide (w<0)) (k:=z.natAbs%w.natAbs) (bK9 fr.len (by decide))
  rw[bJa,←g1]at s1
  rw[aKG,←g2]at d
  simp (disch:=first|rfl|omega)only[S1,aN,aC,aE,aM,aJ,zB,reduceCtorEq,zD,zG,zH,TI,aQ,aAF,kJ,p,vJ 177 rfl,o _,wU,aC2,j,s1 _,d _,aDq]
theorem aYv{z w:Int}(h:aX 900000 z.natAbs)(h':aX 900000 w.natAbs)(c:w≠0):CC (VX (m+6)) 135 [tI z,tI w] (.tp [tI (z.fdiv w),tI (z.fmod w),.int .i64 ((0:Nat):Int)]):= .of (mG z w) (mJ z w) (aO0 h h' c)
theorem bEU:bO PG 87 f87 [4,49,40,29] []=true:=by kernel_rfl
theorem aSg{z w:Int}(h:aX 150000 z.natAbs)(h':aX 150000 w.natAbs):VX (m+6) 87 [tI z,tI w]=some (tI (Int.gcd z w:Nat),false):=by
 have H:=h.len
 have l2:=h'.len
 refine bX rfl func87 bEU rfl ?_
 simp only[f87,N1,bC,bF,bH,bG,bE,zB,zG]
 have t1:=pC (m:=m+4) (xs:=aO z.natAbs) (by omega)
 have t2:=pC (m:=m+4) (xs:=aO w.natAbs) (by omega)
 rw[kJ]at t1 t2
 simp (disch:=first|rfl|omega)only[S1,zB,reduceCtorEq,zD,zG,zH,TI,aQ,(t1 _).1,(t2 _).1]
 refine .loop (fun n e s=>s.nxt=3/\s.ob 2=⟨0,[.b false,.nil]⟩/\e 4=some (.po 2 0)/\∃x y,e 5=some (tW (aO x))/\e 6=some (tW (aO y))/\aX 150000 x/\aX 150000 y/\Nat.gcd x y=Int.gcd z w/\n=oM x y) (oM z.natAbs w.natAbs) ?_ (dB ?_) ?_
 ·refine⟨rfl,rfl, ?_⟩
  simp (disch:=first|rfl|omega)only[S1,zB]
  exact⟨_,_,rfl,rfl,h,h',rfl,rfl⟩
 ·have I:=aFt h
  have J:=aFt h'
  unfold oM
  split<;>omega
 ·rintro n e s ⟨sn,so,f,x,y,j,o,fx,fy,g,rfl⟩
  have lx:=fx.len
  have ly:=fy.len
  obtain⟨k,q⟩:∃k,(aO x).length=k:=⟨_,rfl⟩
  obtain⟨l,p⟩:∃l,(aO y).length=l:=⟨_,rfl⟩
  have c:l≠0↔y≠0:=by
   have h1:=xM (k:=y)
   rw[p]at h1
   exact⟨fun e=>h1.1 (by omega),fun e=>by have:=h1.2 e;omega⟩
  have hgo:(decide (2<l)=true\/decide (2<l)=false/\decide (2<k)=true/\decide (0<l)=true)\/(decide (2<l)=false/\decide (2<k)=true/\decide (0<l)=false)\/(decide (2<l)=false/\decide (2<k)=false):=by
   by_cases h1:2<l<;>by_cases h2:2<k<;>by_cases i:0<l<;>simp [h1,h2,i]
  rcases hgo with hgo|hgo
  ·have d:0<y:=by
    rcases hgo with h1|⟨_,_,i⟩
    ·have:=ae h1;have:=c.1 (by omega);omega
    ·have:=ae i;have:=c.1 (by omega);omega
   have C:=aOb (m:=m+1) (a:=x) (b:=y) d (by omega) (by omega)
   have step:=aNK (x:=x) d
   have fin:(∃x_1 y_1,tW (aO y)=tW (aO x_1)/\tW (aO (x%y))=tW (aO y_1)/\aX 150000 x_1/\aX 150000 y_1/\x_1.gcd y_1=z.gcd w/\oM y (x%y)=oM x_1 y_1):=⟨_,_,rfl,rfl,fy,fy.le (bKb (bK6 _ d)),(aID x y).trans g,rfl⟩
   rcases hgo with h1|⟨h1,h2,i⟩
   ·simp (disch:=first|rfl|omega)only[S1,aN,aC,aE,aM,aJ,zB,f,j,o,sn,so,p,h1,vJ 177 rfl,C _]
    exact⟨oM y (x%y),step,fin⟩
   ·simp (disch:=first|rfl|omega)only[S1,aN,aC,aE,aM,aJ,zB,f,j,o,sn,so,q,p,h1,h2,i,vJ 177 rfl,C _]
    exact⟨oM y (x%y),step,fin⟩
  ·have hs:=oB (m:=m+3) (n:=false) (k:=Int.gcd z w) (bK9 (aX.len (k:=150000) (by
    rw[←g]
    by_cases d:y=0
    ·rw[d,bNh];exact fx
    ·exact fy.le (Nat.gcd_le_right _ (by omega)))) (by decide))
   rw[show sg false (Int.gcd z w)=((Int.gcd z w:Nat):Int)from rfl]at hs
   by_cases d:y=0
   ·have h0:decide (l=0)=true:=ak (by by_cases h:l=0;exact h;exact absurd d (c.1 h))
    rw[d,bNh]at g
    rw[←g]at hs ⊢
    have hc:=aFE (m:=m+4) (xs:=aO x) (by omega)
    rcases hgo with ⟨h1,h2,i⟩|⟨h1,h2⟩
    ·simp (disch:=first|rfl|omega)only[S1,aN,aC,aE,aM,aJ,zB,reduceCtorEq,zD,zG,zH,f,j,o,sn,so,q,p,h1,h2,i,h0,TI,vJ 93 rfl,hc _,vJ 79 rfl,hs _]
    ·simp (disch:=first|rfl|omega)only[S1,aN,aC,aE,aM,aJ,zB,reduceCtorEq,zD,zG,zH,f,j,o,sn,so,q,p,h1,h2,h0,TI,vJ 93 rfl,hc _,vJ 79 rfl,hs _]
   ·rcases hgo with ⟨h1,h2,i⟩|⟨h1,h2⟩
    ·exact absurd (c.2 d) (by have:=af i;omega)
    have h0:decide (l=0)=false:=ai (c.2 d)
    have k2:(aO x).length<=2:=by have:=af h2;omega
    have r:(aO y).length<=2:=by have:=af h1;omega
    have E:=aFj (m:=m+4) (k:=x) k2
    have F:=aFj (m:=m+4) (k:=y) r
    have t:∀ {u:Nat},(aO u).length<=2->u<18446744073709551616:=fun {u} h=>by
     have vu:=jE (cU u)
     rw[cO]at vu
     exact bJK vu (bK2 (n:=4294967296) (by decide) h)
    have bx:=t k2
    have by':=t r
    simp (disch:=first|rfl|omega)only[S1,aN,aC,aE,aM,aJ,zB,reduceCtorEq,zD,zG,zH,f,j,o,sn,so,q,p,h1,h2,h0,vJ 178 rfl,E _,F _]
    refine .loop (fun n e s=>s.nxt=3/\s.ob 2=⟨0,[.b false,.nil]⟩/\e 4=some (.po 2 0)/\∃u v:Nat,e 9=some (.int .u64 (u:Nat))/\e 10=some (.int .u64 (v:Nat))/\u<18446744073709551616/\v<18446744073709551616/\Nat.gcd u v=Int.gcd z w/\n=v) y ?_ (by exact by') ?_
    ·refine⟨sn,so, ?_⟩
     simp (disch:=first|rfl|omega)only[S1,zB,f]
     exact⟨_,_,rfl,rfl,bx,by',g,rfl⟩
    ·rintro n e s ⟨sn,so,f,u,v,D,A,bu,bv,g,rfl⟩
     cases B:decide (n=0)
     ·have v0:=af B
      have G:=bK6 u (show 0<n by omega)
      simp (disch:=first|rfl|omega)only[S1,aC,aE,aM,aJ,zB,f,D,A,sn,so,B]
      exact⟨u%n,G,_,_,rfl,rfl,bv,by omega,(aID u n).trans g,rfl⟩
     ·have v0:=ae B
      rw[v0,bNh]at g
      have hf:=aD2 (m:=m+3) (n:=u) bu
      rw[←g]at hs ⊢
      simp (disch:=first|rfl|omega)only[S1,aC,aE,aM,aJ,zB,reduceCtorEq,zD,zG,zH,f,D,A,sn,so,B,TI,vJ 176 rfl,hf _,vJ 79 rfl,hs _]
theorem aKc{z w:Int}(h:aX 150000 z.natAbs)(h':aX 150000 w.natAbs):CC (VX (m+6)) 87 [tI z,tI w] (tI (Int.gcd z w:Nat)):= .of (mG z w) (mJ z w) (aSg h h')
theorem bBZ:PG.funcs[280]? =some f280:=by kernel_rfl
theorem bB3:bO PG 280 f280 [4] []=true:=by kernel_rfl
theorem bFS{z w:Int}(h:aX 900000 z.natAbs)(h':aX 900000 w.natAbs)(c:w≠0):VX (m+7) 280 [tI z,tI w]=some (tI (z.fdiv w),false):=by
 have c1:=aBL (m:=m+5) (z:=w)
 have c2:=aYv (m:=m) h h' c
 refine bX rfl bBZ bB3 rfl ?_
 simp only[f280,N1,bC,bF,bH,bG,bE,zB,zG]
 simp (disch:=first|rfl|omega)only[S1,zB,reduceCtorEq,zD,zG,zH,TI,vJ 206 rfl,c1 _]
 refine cM (fun e=> ?_) (fun e=> ?_)
 ·have:w=1:=ae e
  subst this
  simp (disch:=first|rfl|omega)only[S1,zB,reduceCtorEq,zD,zG,zH,TI]
  rw[Int.fdiv_one]
 ·simp (disch:=first|rfl|omega)only[S1,zB,reduceCtorEq,zD,zG,zH,TI,vJ 135 rfl,c2 _]
theorem aTI{z w:Int}(h:aX 900000 z.natAbs)(h':aX 900000 w.natAbs)(c:w≠0):CC (VX (m+7)) 280 [tI z,tI w] (tI (z.fdiv w)):= .of (mG z w) (mJ z w) (bFS h h' c)
theorem aZk:bO PG 223 f223 [4] []=true:=by kernel_rfl
theorem bCb{z w:Int}(h:aX 150000 z.natAbs)(h':aX 150000 w.natAbs)(c:w≠0):VX (m+8) 223 [tI z,tI w]=some (tR (Rat.divInt z w),false):=by
 have c1:=aKc (m:=m+1) h h'
 have fg:aX 150000 (Int.gcd z w):=h'.le (Nat.le_of_dvd (by omega) (Int.ofNat_dvd_left.1 (Int.gcd_dvd_right z w)))
 have c2:=aSM (m:=m+4) (z:=((Int.gcd z w:Nat):Int)) (fg.mono (by decide))
 have r:=bDg (a:=z) c
 have fl:aX 150000 (oL z w).natAbs:=by unfold oL;split<;>simpa using fg
 have l:=aTI (m:=m) (z:=z) (w:=oL z w) (h.mono (by decide)) (fl.mono (by decide)) r
 have n:=aTI (m:=m) (z:=w) (w:=oL z w) (h'.mono (by decide)) (fl.mono (by decide)) r
 rw[bCO c]at l
 rw[bFK c]at n
 refine bX rfl func223 aZk rfl ?_
 simp only[f223,N1,bC,bF,bH,bG,bE,zB,zG]
 simp (disch:=first|rfl|omega)only[S1,zB,reduceCtorEq,zD,zG,zH,TI,aQ,vJ 87 rfl,c1 _]
 refine cM (fun e=> ?_) (fun e=> ?_)
 ·have e0:=ae e
  rw[show oL z w= -((Int.gcd z w:Nat):Int) by unfold oL;rw[if_pos e0]]at l n
  simp (disch:=first|rfl|omega)only[S1,aD,zB,reduceCtorEq,zD,zG,zH,TQ,vJ 275 rfl,c2 _,l _,n _]
 ·have e0:=af e
  rw[show oL z w=((Int.gcd z w:Nat):Int) by unfold oL;rw[if_neg e0]]at l n
  simp (disch:=first|rfl|omega)only[S1,aD,zB,reduceCtorEq,zD,zG,zH,TQ,l _,n _]
theorem aFo{z w:Int}(h:aX 150000 z.natAbs)(h':aX 150000 w.natAbs)(c:w≠0):CC (VX (m+8)) 223 [tI z,tI w] (tR (Rat.divInt z w)):= .of (mG z w) (mJ z w) (bCb h h' c)
theorem bFl:bO PG 181 f181 [5,4] []=true:=by kernel_rfl
theorem aQm{z w:Int}(h:aX 150000 z.natAbs)(h':aX 150000 w.natAbs)(c:w≠0):VX (m+9) 181 [tI z,tI w]=some (.tp [tR (Rat.divInt z w),.int .i64 ((0:Nat):Int)],false):=by
 have n1:=aQF (m:=m+5) (h.mono (k:=9000000) (by decide))
 have t:=aQF (m:=m+5) (h'.mono (k:=9000000) (by decide))
 have c1:=aOg (m:=m+7) (z:=w)
 have c2:=aFo (m:=m) h h' c
 refine bX rfl func181 bFl rfl ?_
 simp only[f181,N1,bC,bF,bH,bG,bE,zB,zG]
 simp (disch:=first|rfl|omega)only[S1,aC,aE,aM,aJ,zB,reduceCtorEq,zD,zG,zH,TQ,n1 _,t _,vJ 253 rfl,c1 _,ai c,vJ 223 rfl,c2 _,aJn]
theorem bEG{z w:Int}(h:aX 150000 z.natAbs)(h':aX 150000 w.natAbs)(c:w≠0):CC (VX (m+9)) 181 [tI z,tI w] (.tp [tR (Rat.divInt z w),.int .i64 ((0:Nat):Int)]):= .of (mG z w) (mJ z w) (aQm h h' c)
theorem aTD(a b:Rat):(a.den:Int)*b.den≠0:=by
 have h1:=a.den_pos
 have h2:=b.den_pos
 exact Int.mul_ne_zero (by omega) (by omega)
theorem bFv:bO PG 200 f200 [4] []=true:=by kernel_rfl
theorem aKE{a b:Rat}(h:FR 74900 a)(h':FR 74900 b):VX (m+9) 200 [tR a,tR b]=some (tR (a+b),false):=by
 have g:=aBL (m:=m+7) (z:=(a.den:Int))
 have i:=aBL (m:=m+7) (z:=(b.den:Int))
 have o:=aKl (m:=m+4)
 have f:=wB (m:=m+5) (z:=a.num) (w:=(b.den:Int)) (h.1.mono (by decide)) (h'.2.mono (by decide))
 have s:=wB (m:=m+5) (z:=b.num) (w:=(a.den:Int)) (h'.1.mono (by decide)) (h.2.mono (by decide))
 have j:=wB (m:=m+5) (z:=(a.den:Int)) (w:=(b.den:Int)) (h.2.mono (by decide)) (h'.2.mono (by decide))
 have a1:=aSE (m:=m+4) (z:=a.num) (w:=b.num) (h.1.mono (by decide)) (h'.1.mono (by decide))
 have a2:=aSE (m:=m+4) (z:=a.num*b.den) (w:=b.num*a.den) ((h.mul1 h').1.mono (by decide)) ((h'.mul1 h).1.mono (by decide))
 have fn:aX 149801 (a.num*b.den+b.num*a.den).natAbs:=((h.mul1 h').1.add (h'.mul1 h).1).le (Int.natAbs_add_le _ _)
 have lo:=aFo (m:=m) (z:=a.num*b.den+b.num*a.den) (w:=(a.den:Int)*b.den) (fn.mono (by decide)) ((h.mul1 h').2.2.1.mono (by decide)) (aTD a b)
 rw[show Rat.divInt (a.num*b.den+b.num*a.den) ((a.den:Int)*b.den)=a+b by rw[←bEh,bLa]]at lo
 refine bX rfl func200 bFv rfl ?_
 simp only[f200,N1,bC,bF,bH,bG,bE,zB,zG]
 cases d:decide ((a.den:Int)=1)
 ·simp (disch:=first|rfl|omega)only[S1,aC,aE,aM,aJ,zB,reduceCtorEq,zD,zG,zH,TQ,aQ,vJ 206 rfl,g _,d,f _,s _,j _,a2 _,lo _]
 ·cases hB:decide ((b.den:Int)=1)
  ·simp (disch:=first|rfl|omega)only[S1,aC,aE,aM,aJ,zB,reduceCtorEq,zD,zG,zH,TQ,aQ,vJ 206 rfl,g _,i _,d,hB,f _,s _,j _,a2 _,lo _]
  ·simp (disch:=first|rfl|omega)only[S1,aC,aE,aM,aJ,aD,zB,reduceCtorEq,zD,zG,zH,TQ,aQ,vJ 206 rfl,g _,i _,d,hB,vJ 270 rfl,a1 _,vJ 117 rfl,o _]
   obtain⟨p,q⟩:=aP7 (aAH d) (aAH hB)
   exact pE p.symm (by rw[q])
theorem aTx{a b:Rat}(h:FR 74900 a)(h':FR 74900 b):CC (VX (m+9)) 200 [tR a,tR b] (tR (a+b)):= .of (pK a b) (sH a b) (aKE h h')
theorem bFg:bO PG 143 f143 [4] []=true:=by kernel_rfl
theorem aRX{a b:Rat}(h:FR 74900 a)(h':FR 74900 b):VX (m+10) 143 [tR a,tR b]=some (tR (a-b),false):=by
 have n1:=aK9 (m:=m+5) (h'.mono (k:=9000000) (by decide))
 have a1:=aTx (m:=m) h (b:= -b) ⟨by rw[Rat.neg_num,Int.natAbs_neg];exact h'.1,by rw[Rat.neg_den];exact h'.2⟩
 rw[←Rat.sub_eq_add_neg]at a1
 refine bX rfl func143 bFg rfl ?_
 simp only[f143,N1,bC,bF,bH,bG,bE,zB,zG]
 simp (disch:=first|rfl|omega)only[S1,zB,reduceCtorEq,zD,zG,zH,TQ,n1 _,a1 _]
theorem bG1{a b:Rat}(h:FR 74900 a)(h':FR 74900 b):CC (VX (m+10)) 143 [tR a,tR b] (tR (a-b)):= .of (pK a b) (sH a b) (aRX h h')
theorem bE0:bO PG 142 f142 [4] []=true:=by kernel_rfl
theorem aKu{a b:Rat}(h:FR 74900 a)(h':FR 74900 b):VX (m+9) 142 [tR a,tR b]=some (tR (a*b),false):=by
 have g:=aBL (m:=m+7) (z:=(a.den:Int))
 have i:=aBL (m:=m+7) (z:=(b.den:Int))
 have o:=aKl (m:=m+4)
 have f:=wB (m:=m+5) (z:=a.num) (w:=b.num) (h.1.mono (by decide)) (h'.1.mono (by decide))
 have j:=wB (m:=m+5) (z:=(a.den:Int)) (w:=(b.den:Int)) (h.2.mono (by decide)) (h'.2.mono (by decide))
 have lo:=aFo (m:=m) (z:=a.num*b.num) (w:=(a.den:Int)*b.den) ((h.mul1 h').2.1.mono (by decide)) ((h.mul1 h').2.2.1.mono (by decide)) (aTD a b)
 rw[show Rat.divInt (a.num*b.num) ((a.den:Int)*b.den)=a*b by rw[←bEb,bLa]]at lo
 refine bX rfl func142 bE0 rfl ?_
 simp only[f142,N1,bC,bF,bH,bG,bE,zB,zG]
 cases d:decide ((a.den:Int)=1)
 ·simp (disch:=first|rfl|omega)only[S1,aC,aE,aM,aJ,zB,reduceCtorEq,zD,zG,zH,TQ,aQ,vJ 206 rfl,g _,d,f _,j _,lo _]
 ·cases hB:decide ((b.den:Int)=1)
  ·simp (disch:=first|rfl|omega)only[S1,aC,aE,aM,aJ,zB,reduceCtorEq,zD,zG,zH,TQ,aQ,vJ 206 rfl,g _,i _,d,hB,f _,j _,lo _]
  ·simp (disch:=first|rfl|omega)only[S1,aC,aE,aM,aJ,aD,zB,reduceCtorEq,zD,zG,zH,TQ,aQ,vJ 206 rfl,g _,i _,d,hB,vJ 136 rfl,f _,vJ 117 rfl,o _]
   obtain⟨p,q⟩:=aPx (aAH d) (aAH hB)
   exact pE p.symm (by rw[q])
theorem aKr{a b:Rat}(h:FR 74900 a)(h':FR 74900 b):CC (VX (m+9)) 142 [tR a,tR b] (tR (a*b)):= .of (pK a b) (sH a b) (aKu h h')
theorem bD0:bO PG 202 f202 [5,4] []=true:=by kernel_rfl
theorem aTM{a b:Rat}(h:FR 74900 a)(h':FR 74900 b)(h0:b≠0):VX (m+9) 202 [tR a,tR b]=some (.tp [tR (a/b),.int .i64 ((0:Nat):Int)],false):=by
 have hn:b.num≠0:=fun e=>h0 (aBk e)
 have c1:=aOg (m:=m+7) (z:=b.num)
 have f:=wB (m:=m+5) (z:=a.num) (w:=(b.den:Int)) (h.1.mono (by decide)) (h'.2.mono (by decide))
 have j:=wB (m:=m+5) (z:=(a.den:Int)) (w:=b.num) (h.2.mono (by decide)) (h'.1.mono (by decide))
 have u:(a.den:Int)*b.num≠0:=Int.mul_ne_zero (by have:=a.den_pos;omega) hn
 have lo:=aFo (m:=m) (z:=a.num*b.den) (w:=(a.den:Int)*b.num) ((h.mul1 h').1.mono (by decide)) ((h.mul1 h').2.2.2.mono (by decide)) u
 rw[bF3]at lo
 refine bX rfl func202 bD0 rfl ?_
 simp only[f202,N1,bC,bF,bH,bG,bE,zB,zG]
 simp (disch:=first|rfl|omega)only[S1,aC,aE,aM,aJ,zB,reduceCtorEq,zD,zG,zH,TQ,aQ,vJ 253 rfl,c1 _,ai hn,f _,j _,lo _,aJn]
theorem aT2{a b:Rat}(h:FR 74900 a)(h':FR 74900 b)(h0:b≠0):CC (VX (m+9)) 202 [tR a,tR b] (.tp [tR (a/b),.int .i64 ((0:Nat):Int)]):= .of (pK a b) (sH a b) (aTM h h' h0)
def zX(l:List Rat):TV×Bool:=if l=[]then(.em,false)else(.im 4 (bP.row l),true)
theorem aPq:zX []=(.em,false):=rfl
theorem aBX{l:List Rat}(h:l≠ []):zX l=(.im 4 (bP.row l),true):=if_neg h
def Ow(s:VS)(v:TV)(l:List Rat):Prop:=(l=[]/\v= .em)\/(l≠ []/\∃k,v= .ow k 0 l.length 4/\k<s.nxt/\s.ob k=⟨0,bP.row l⟩)
def OwP(s s':VS)(v:TV)(l:List Rat):Prop:=(l=[]/\v= .em/\s'=s)\/(l≠ []/\v= .ow s.nxt 0 l.length 4/\s'=s.new (bP.row l))
theorem OwP.ow{s s':VS}{v:TV}{l:List Rat}(h:OwP s s' v l):Ow s' v l:=by
 rcases h with ⟨h1,h2,_⟩|⟨h1,h2,rfl⟩
 ·exact .inl ⟨h1,h2⟩
 ·exact .inr ⟨h1,s.nxt,h2,bJT _,if_pos rfl⟩
theorem aRg{l:List Rat}:(bP.row l).length/4=l.length:=by rw[bP.row_len];exact Nat.mul_div_cancel _ (by decide)
theorem aRB{l:List Rat}:(bP.row l).length%4=0:=by rw[bP.row_len];exact Nat.mul_mod_left _ _
theorem aAs{orc:cP}{f:FuncId}{args:List TV}{l:List Rat}(hc:Can args)(hs:bT args<=cL)(b:orc f args=some (zX l))(s:VS):∃v s',dC orc f args s=some (v,s')/\fF orc f args s=some (v,s')/\OwP s s' v l:=by
 by_cases h:l=[]
 ·subst h
  exact⟨_,_,aF3 hc hs b,by rw[aDe hc.1 hs];exact aF3 hc hs b,.inl ⟨rfl,rfl,rfl⟩⟩
 ·rw[aBX h]at b
  have:=aWP (s:=s) hc hs b (by decide) aRB
  rw[aRg]at this
  exact⟨_,_,this,by rw[aDe hc.1 hs];exact this,.inr ⟨h,rfl,rfl⟩⟩
theorem aDc{orc:cP}{f:FuncId}{s:VS}{v0:TV}{o l:List Rat}{ts:List TV}(B:fV bP s v0 o)(hn:o.length<=1000)(p:Can ts)(hsz:bT ts<=1000)(b:orc f (tP o::ts)=some (zX l)):∃v s1 s',dC orc f (v0::ts) s=some (v,s')/\fF orc f (v0::ts) s=some (v,s')/\Rest s v0 s1/\OwP s1 s' v l:=by
 obtain⟨t,s1,C,D,g⟩:=B.close (n:=99999998) (by show o.length*9+1<=99999998;omega)
 have ec:cY cL s (v0::ts)=some (t::ts,s1):=by
  show cY (99999999+1) s (v0::ts)=_
  simp only[cY,C,bJM]
  rw[(nC 99999999).2 p.1 (by omega)]
  rfl
 have en:cG (t::ts)=tP o::ts:=by simp only[cG,D,p.2];rfl
 by_cases h:l=[]
 ·subst h
  refine⟨.em,s1,if fX .em then s else s1, ?_, ?_,g,.inl ⟨rfl,rfl,rfl⟩⟩
  ·unfold dC
   rw[ec]
   simp only[bJM,en,b,aPq,bJQ,if_false]
   rfl
  ·unfold fF
   rw[ec]
   simp only[bJM,en,b,aPq,bJQ,if_false]
   rfl
 ·rw[aBX h]at b
  have A:nT (.im 4 (bP.row l)) s1=some (.ow s1.nxt 0 l.length 4,s1.new (bP.row l)):=by
   show(if 0<4/\(bP.row l).length%4=0 then some (TV.ow s1.nxt 0 ((bP.row l).length/4) 4,s1.new (bP.row l))else none)=_
   rw[if_pos ⟨by decide,aRB⟩,aRg]
  refine⟨_,s1,_, ?_, ?_,g,.inr ⟨h,rfl,rfl⟩⟩
  ·unfold dC
   rw[ec]
   simp only[bJM,en,b,if_true,A]
  ·unfold fF
   rw[ec]
   simp only[bJM,en,b,if_true]
   exact A
theorem Ow.ret{s:VS}{v:TV}{l:List Rat}(h:Ow s v l)(x:l.length<=1000):(dJ s [v]).map (nX true)=some (tP l,false):=by
 rcases h with ⟨rfl,rfl⟩|⟨_,k,rfl,h2,F⟩
 ·rfl
 ·exact aJP h2 F rfl (by omega)
theorem aFY{s:VS}{k:Nat}{l:List Rat}(G:k<s.nxt)(b:s.ob k=⟨0,bP.row l⟩)(h0:l≠ [])(x:l.length<=1000):dJ s [.ow k 0 l.length 4]=some (.im 4 (bP.row l),true):=by
 have a:(bP.row l).length=l.length*4:=bP.row_len l
 have hc:=qR (s:=s) (bP.row_can l).1 (bJH (bP.row_siz l) (by show l.length*9+1<=100000000;omega))
 have y:lA (bP.row l)=false:=by
  cases l with
  |nil=>exact absurd rfl h0
  |cons q l=>
   show(fX (.b (decide (q.num<0)))&&(fX (tW (aO q.num.natAbs))&&_))=false
   have:fX (tW (aO q.num.natAbs))=false:=by unfold tW;cases List.map wc (aO q.num.natAbs)<;>rfl
   rw[this];rfl
 simp only[dJ,b]
 rw[if_neg (fun h=>by rw[y]at h;exact absurd h.2.2.1 (by decide)),if_pos ⟨trivial,G,trivial,a,by decide⟩,hc]
 simp only[bJM,b,if_true,(bP.row_can l).2]
theorem bJh:fA PG 35= .sli:=by kernel_rfl
theorem bEK{q:Rat}{l:List Rat}:bU .sli .eql (tP (q::l)) .nil=some (.b false):=by
 show bU .sli .eql (tL 4 (bP.row (q::l))) .nil=_
 rw[aB8 (EC.row_ne (E:=bP))];rfl
theorem aYE:bO PG 113 f113 [2] []=true:=by kernel_rfl
theorem aPK{l:List Rat}(h:l.length<=1000):VX (m+1) 113 [tP l]=some (zX l):=by
 cases l with
 |nil=>rfl
 |cons q l=>
  rw[aBX (by simp)]
  refine bX rfl func113 aYE rfl ?_
  simp only[f113,N1,bC,bF,bH,bG,bE,zB,zG]
  simp (disch:=first|rfl|omega)only[S1,aK,aC,aE,aM,aJ,aD,zB,aU,bJh,bEK,bJJ]
  rw[aSX (l:=[]) (len:=0) bLU rfl rfl (fun e=>by cases e) (by decide) (by simp only[bJN]at*;omega)]
  simp (disch:=first|rfl|omega)only[S1,zB,reduceCtorEq]
  exact aFY (k:=1) (l:=q::l) (show 1<2 by decide) rfl (by simp) h
theorem bC4:bO PG 182 f182 [2,16] []=true:=by kernel_rfl
theorem yC{l:List Rat}(h:PS 9000000 l):VX (m+4) 182 [tP l]=some (zX (tr l)):=by
 refine bX rfl func182 bC4 rfl ?_
 simp only[f182,N1,bC,bF,bH,bG,bE,zB,zG]
 have x:=h.1
 simp (disch:=first|rfl|omega)only[S1,aN,aC,aE,aM,aJ,zB,aU]
 refine .loop (fun n e s=>s=dZ/\n<=l.length/\e 0=some (tP l)/\e 3=some (.int .i64 (n:Nat))/\tr (l.take n)=tr l) l.length ⟨rfl,bJE _, ?_, ?_,by simp⟩ (dB (by omega)) ?_
 ·simp (disch:=first|rfl|omega)only[S1,zB]
 ·simp (disch:=first|rfl|omega)only[S1,zB]
 ·rintro n e s ⟨rfl,hn,e0,g,u⟩
  have fin:tr (l.take n)=l.take n->∀e:bB,True:=fun _ _=>trivial
  by_cases h0:n=0
  ·subst h0
   obtain⟨v,s', -,i,r⟩:=aAs (iM []) (jD []) (aPK (m:=m+2) (l:=[]) (by decide)) dZ
   rcases r with ⟨_,rfl,rfl⟩|⟨c,_⟩
   ·simp (disch:=first|rfl|omega)only[S1,aC,aE,aM,aJ,zB,reduceCtorEq,zG,aU,e0,g,vJ 113 rfl,bKW,bJJ,i]
    rw[←u]
    rfl
   ·exact absurd rfl c
  ·obtain⟨j,rfl⟩:∃j,n=j+1:=⟨n-1,by omega⟩
   have g1:decide (0<j+1)=true:=ak (by omega)
   have sg:=aFX (m:=m+1) (h.co (j:=j) (by omega))
   cases w:decide (gB (co l j)=0)
   ·have d:co l j≠0:=fun e=>af w (aFx.2 e)
    have a:(l.take (j+1)).length=j+1:=by rw[bJO];omega
    have c:l.take (j+1)≠ []:=fun e=>by rw[e]at a;cases a
    obtain⟨v,s', -,i,r⟩:=aAs (iM (l.take (j+1))) (jD _) (aPK (m:=m+2) (l:=l.take (j+1)) (by omega)) dZ
    rcases r with ⟨z,_⟩|⟨_,rfl,rfl⟩
    ·exact absurd z c
    ·rw[←u,aLL (by omega) d,aBX c]
     simp (disch:=first|rfl|omega)only[S1,aC,aE,aM,aJ,zB,reduceCtorEq,aU,e0,g,g1,bKs,lF,kY,vJ 139 rfl,sg _,w,vJ 113 rfl,bKW,bJJ,i]
     exact aFY (k:=0) (show 0<1 by decide) rfl c (by omega)
   ·have d:=aFx.1 (ae w)
    simp (disch:=first|rfl|omega)only[S1,aC,aE,aM,aJ,zB,aU,e0,g,g1,bKs,lF,kY,vJ 139 rfl,sg _,w]
    exact⟨j,by omega,by omega,rfl,by rw[←u,aLJ d]⟩
theorem aGa{k off len sz:Nat}:jW PG 35 (.ow k off len sz)=some (.int .i64 (len:Nat)):=aJr eR
theorem aQI:jW PG 35 .em=some (.int .i64 ((0:Nat):Int)):=bFe eR
theorem aXh:bO PG 90 f90 [2] []=true:=by kernel_rfl
theorem aZu{l:List Rat}(h:PS 9000000 l):VX (m+5) 90 [tP l]=some (.int .i64 (iz (tr l).length),false):=by
 have u:=fN l
 have x:=h.1
 refine bX rfl func90 aXh rfl ?_
 simp only[f90,N1,bC,bF,bH,bG,bE,zB,zG]
 obtain⟨v,s', -,i,r⟩:=aAs (iM l) (jD l) (yC (m:=m) h) dZ
 rcases r with ⟨z,rfl,rfl⟩|⟨c,rfl,rfl⟩
 ·rw[z]
  simp (disch:=first|rfl|omega)only[S1,aN,aC,aE,aM,aJ,zB,reduceCtorEq,vJ 182 rfl,i,aQI]
 ·simp (disch:=first|rfl|omega)only[S1,aN,aC,aE,aM,aJ,zB,reduceCtorEq,vJ 182 rfl,i,aGa]
theorem aIm{l:List Rat}(h:PS 9000000 l):CC (VX (m+5)) 90 [tP l] (.int .i64 (iz (tr l).length)):= .of (iM l) (jD l) (aZu h)
theorem aJ1{et:fP}{x:Nat}(h:x<18446744073709551616):bU et .and (.int .u64 (x:Int)) (.int .u64 ((4294967295:Nat):Int))=some (.int .u64 ((x%4294967296:Nat):Int)):=by
 simp only[bU,dX,if_true]
 rw[if_pos ⟨by omega,by show(x:Int)<=18446744073709551615;omega,by decide,by decide⟩]
 have e:=Nat.and_two_pow_sub_one_eq_mod x 32
 have D:Nat.land x 4294967295=x%4294967296:=e
 rw[show((x:Int)).toNat=x from rfl,show(((4294967295:Nat):Int)).toNat=4294967295 from rfl,D]
theorem niu:nP PG 3 114=some .u64:=by kernel_rfl
theorem bJg:nP PG 114 3=some .i64:=by kernel_rfl
theorem aIG{z:Nat}(h:z<18446744073709551616):IntKind.u64.wrap (z:Int)=(z:Int):=by rw[aAg];omega
theorem bCE:bO PG 260 f260 [5,4] []=true:=by kernel_rfl
theorem bDJ{n:Nat}(h:n<4294967296):CC (VX (m+1)) 260 [.int .u64 ((1:Nat):Int),.int .u64 (n:Nat)] (.tp [.int .u64 ((0:Nat):Int),.int .u64 (n:Nat)]):=by
 refine .of (aGz _ _ _) (aGC _ _ _) ?_
 have h1:n/4294967296=0:=bLl h
 have h2:n%4294967296=n:=bKg h
 have a1:bU (fA PG 103) .and (.int .u64 ((1:Nat):Int)) (.int .u64 ((4294967295:Nat):Int))=some (.int .u64 ((1:Nat):Int)):=aJ1 (by decide)
 have a2:bU (fA PG 103) .and (.int .u64 (n:Nat)) (.int .u64 ((4294967295:Nat):Int))=some (.int .u64 (n:Nat)):=by rw[aJ1 (by omega),h2]
 have a3:bU (fA PG 103) .and (.int .u64 ((0:Nat):Int)) (.int .u64 ((4294967295:Nat):Int))=some (.int .u64 ((0:Nat):Int)):=aJ1 (by decide)
 refine bX rfl func260 bCE rfl ?_
 simp only[f260,N1,bC,bF,bH,bG,bE,zB,zG]
 simp (disch:=first|rfl|omega)only[S1,aC,aE,aM,aJ,zB,reduceCtorEq,zD,a1,a2,a3,Nat.one_mul,bL8,Nat.mul_zero,Nat.zero_div,Nat.reduceDiv,h1]
 rfl
theorem bDH:bO PG 186 f186 [5,4] []=true:=by kernel_rfl
theorem bHk{n:Nat}(h:n<4294967296):CC (VX (m+2)) 186 [.int .u64 ((1:Nat):Int),.int .u64 (n:Nat)] (.tp [.int .u64 ((0:Nat):Int),.int .u64 (n:Nat)]):=by
 refine .of (aGz _ _ _) (aGC _ _ _) ?_
 have c1:=bDJ (m:=m) h
 refine bX rfl func186 bDH rfl ?_
 simp only[f186,N1,bC,bF,bH,bG,bE,zB,zG]
 simp (disch:=first|rfl|omega)only[S1,aC,aE,aM,aJ,zB,reduceCtorEq,zD,vJ 260 rfl,c1 _]
 rfl
def aEi:List TV:=[.b false,.nil,.b false,.nil]
def oI(n k:Nat)(q:Rat):List TV:=bP.row (bJL k q)++(bJL (n-k) aEi).flatten
theorem aH6(j:Nat):(bJL j aEi).flatten.length=j*4:=by
 induction j with
 |zero=>rfl
 |succ j ih=>rw[List.replicate_succ,List.flatten_cons,bJW,ih];show 4+j*4=(j+1)*4;omega
theorem aTV(j k:Nat)(h:k<=j):(bJL j aEi).flatten.drop (k*4)=(bJL (j-k) aEi).flatten:=by
 obtain⟨i,rfl⟩:∃i,j=k+i:=⟨j-k,by omega⟩
 rw[←List.replicate_append_replicate,List.flatten_append,List.drop_append_of_le_length (by rw[aH6];exact bJE _),bLT (by rw[aH6];exact bJE _),Nat.add_sub_cancel_left]
 rfl
theorem aPz{n k:Nat}{q:Rat}(h:k<=n):(oI n k q).length=n*4:=by
 unfold oI
 rw[bJW,bP.row_len,aH6,bKu]
 show k*4+(n-k)*4=n*4
 omega
theorem aP2{n k j:Nat}{q:Rat}(h:k+j<=n):hH (bP.row (bJL j q)) (k*4) (oI n k q)=some (oI n (k+j) q):=by
 have c:(bP.row (bJL j q)).length=j*4:=by rw[bP.row_len,bKu];rfl
 have a:(bP.row (bJL k q)).length=k*4:=by rw[bP.row_len,bKu];rfl
 simp only[hH]
 rw[if_pos (by rw[c,aPz (by omega)];omega)]
 congr 1
 unfold oI
 rw[bN3 (by rw[a];exact bJE _),bJU (by rw[a];exact bJE _),c,bN9,bLT (by rw[a];omega),a,bKA]
 rw[show k*4+j*4-k*4=j*4 by omega,aTV _ _ (by omega),←bP.row_app,List.replicate_append_replicate,show n-k-j=n-(k+j) by omega]
theorem bAn{n k j:Nat}{q:Rat}(h:j<=k)(h2:k<=n):jK (j*4) 0 (oI n k q)=some (bP.row (bJL j q)):=by
 have c:(bP.row (bJL j q)).length=j*4:=by rw[bP.row_len,bKu];rfl
 simp only[jK]
 rw[if_pos (by rw[aPz h2];omega),bJV]
 congr 1
 obtain⟨i,rfl⟩:∃i,k=j+i:=⟨k-j,by omega⟩
 unfold oI
 rw[←List.replicate_append_replicate,bP.row_app,List.append_assoc,bN3 (by rw[c];exact bJE _),bJU (by rw[c];exact bJE _)]
theorem aYQ{n:Nat}{q:Rat}:oI n n q=bP.row (bJL n q):=by
 unfold oI
 rw[bKS]
 exact bKQ _
theorem bGY{s:VS}{n:Nat}{q:Rat}(hn:0<n)(d:n<=1000)(a:0<s.nxt)(t:s.ob 0=⟨0,oI n 0 q⟩):uZ PG 78 s (.ow 0 0 n 4) (tP [q])=some (.int .i64 ((1:Nat):Int),s.set 0 ⟨0,oI n 1 q⟩):=by
 have u:jC s 4 (tP [q])=some (bP.row [q],1):=aFG (E:=bP) (l:=[q])
 simp only[uZ,xF,sR,if_true,a,t,u,bJM,and_self]
 have e:min 1 n=1:=by omega
 have v:(bP.row [q]).take (1*4)=bP.row (bJL 1 q):=bJU (by rw[bP.row_len];exact bJE _)
 rw[e,if_neg (by decide),v,if_pos ⟨by decide,bP.row_one _⟩]
 have:=aP2 (n:=n) (k:=0) (j:=1) (q:=q) (by omega)
 rw[bL8,bKi]at this
 rw[this]
 rfl
theorem bGG{s:VS}{n k:Nat}{q:Rat}(f:0<k)(w:k<n)(d:n<=1000)(a:0<s.nxt)(t:s.ob 0=⟨0,oI n k q⟩):uZ PG 78 s (.ow 0 (0+k*4) (n-k) 4) (.ow 0 0 k 4)=some (.int .i64 ((min k (n-k):Nat):Int),s.set 0 ⟨0,oI n (k+min k (n-k)) q⟩):=by
 have u:jC s 4 (.ow 0 0 k 4)=some (bP.row (bJL k q),k):=by
  simp only[jC,t]
  rw[if_pos ⟨trivial,a,by decide⟩,bAn (bJE _) (by omega)]
  rfl
 simp only[uZ,xF,sR,if_true,a,t,u,bJM,and_self]
 have y:min k (n-k)<=k:=Nat.min_le_left _ _
 have h0:min k (n-k)≠0:=by omega
 have A:min k (n-k)<=n-k:=Nat.min_le_right _ _
 rw[if_neg h0]
 generalize min k (n-k)=j at*
 have v:(bP.row (bJL k q)).take (j*4)=bP.row (bJL j q):=by
  have h1:=bP.take (bJL k q) j
  rw[show bP.sz=4 from rfl]at h1
  rw[h1,List.take_replicate,bK7 y]
 rw[v,if_pos ⟨by omega,bP.row_one _⟩,bKi,aP2 (by omega)]
 rfl
theorem aY9{r:bB}{k off len:Nat}{lo:Operand}{g:Option Operand}:jB PG 35 r (.ow k off len 4) (some lo) g none=(eL r 0 (some lo)).bind fun l=>(eL r len g).bind fun h=>if l<=h/\h<=len then(if l=h then(if l=0 then some (.ow k off 0 4)else some .em)else some (.ow k (off+l*4) (h-l) 4))else none:=by
 simp only[jB,eR,kR,if_true,sR]
theorem aXq{r:bB}{k off len:Nat}{g:Option Operand}:jB PG 35 r (.ow k off len 4) none g none=(eL r len g).bind fun h=>if h<=len then some (.ow k off h 4)else none:=by
 simp only[jB,eR,kR,if_true,sR,eL,bJM]
 congr 1;funext h
 by_cases hh:h<=len
 ·rw[if_pos ⟨bJJ _,hh⟩,if_pos hh]
  by_cases h0:0=h
  ·rw[if_pos h0,h0]
  ·rw[if_neg h0];simp
 ·rw[if_neg (fun h=>hh h.2),if_neg hh]
theorem bGE:bO PG 277 f277 [4,37,26] []=true:=by kernel_rfl
theorem bIa{q:Rat}{n:Nat}(hn:0<n)(d:n<=1000):VX (m+3) 277 [tP [q],.int .i64 (n:Nat)]=some (zX (bJL n q)):=by
 have o:bJL n q≠ []:=fun e=>by have:=congrArg bKU e;rw[bKu]at this;simp at this;omega
 have c1:=bHk (m:=m) (n:=n) (by omega)
 rw[aBX o]
 refine bX rfl func277 bGE rfl ?_
 simp only[f277,N1,bC,bF,bH,bG,bE,zB,zG]
 have F:=aIG (z:=1) (by decide)
 have G:=aIG (z:=n) (by omega)
 have H:IntKind.i64.wrap ((n:Nat):Int)=(n:Int):=vL (by omega) (by omega)
 have g1:decide (9223372036854775807<n)=false:=ai (by omega)
 have f1:=bGY (s:=dZ.new (bJL n [TV.b false,.nil,.b false,.nil]).flatten) (q:=q) hn d bLU rfl
 simp (disch:=first|rfl|omega)only[S1,aN,aC,aE,aM,aJ,zB,zD,aU,niu,bJg,F,G,H,aCq,vJ 186 rfl,c1 _,bKl,g1,f1]
 refine .loop (fun r e s=>∃k,0<k/\k<=n/\r=n-k/\s.nxt=1/\s.ob 0=⟨0,oI n k q⟩/\e 7=some (.ow 0 0 n 4)/\e 8=some (.int .i64 (k:Nat))) (n-1) ?_ (dB (by omega)) ?_
 ·refine⟨1,by decide,hn,rfl,rfl,rfl, ?_, ?_⟩<;>simp (disch:=first|rfl|omega)only[S1,zB]
 ·rintro r e s ⟨k,f,w,rfl,sn,so,B,C⟩
  by_cases a:k<n
  ·have g2:decide (k<n)=true:=ak a
   have f2:=bGG (s:=s) f a d (by omega) so
   have p:(k=n)=False:=by simp;omega
   have I:(k=0)=False:=by simp;omega
   obtain⟨j,J⟩:∃j,min k (n-k)=j:=⟨_,rfl⟩
   rw[J,bKi]at f2
   have K:0<j/\k+j<=n:=by omega
   simp (disch:=first|rfl|omega)only[S1,aN,zB,B,C,sn,so,aJr eR,g2,aCq,aY9,aXq,p,I,f2]
   exact⟨n-(k+j),by omega,k+j,by omega,by omega,rfl,rfl,rfl⟩
  ·have g2:decide (k<n)=false:=ai a
   obtain rfl:k=n:=by omega
   rw[aYQ]at so
   simp (disch:=first|rfl|omega)only[S1,aN,zB,reduceCtorEq,B,C,aJr eR,g2]
   have:=aFY (s:=s) (k:=0) (l:=bJL k q) (by omega) so o (by rw[bKu];exact d)
   rw[bKu]at this
   exact this
end
end Ev
def fS(r b:List Rat)(i:Nat)(c:Rat):Nat->List Rat
 |0=>r
 |t+1=>(fS r b i c t).set (i+t) (co (fS r b i c t) (i+t)-c*co b t)
theorem aJj(r b:List Rat)(i:Nat)(c:Rat):∀t,(fS r b i c t).length=r.length
 |0=>rfl
 |t+1=>by rw[fS,bKT,aJj r b i c t]
theorem aTk(l:List Rat)(i:Nat)(x:Rat)(j:Nat):co (l.set i x) j=if j=i/\i<l.length then x else co l j:=by
 unfold co
 rw[bK0,List.getElem?_set]
 by_cases h:i=j
 ·subst h
  by_cases h2:i<l.length
  ·simp [h2]
  ·simp [h2,bK0]
 ·rw[if_neg h,if_neg (fun e=>h e.1.symm),bK0]
theorem aRE{r b:List Rat}{i:Nat}{c:Rat}:∀ {t:Nat},i+t<=r.length->∀j,co (fS r b i c t) j=if i<=j/\j<i+t then co r j-c*co b (j-i)else co r j
 |0,_,j=>by rw[if_neg (by omega)];rfl
 | t+1,h,j=>by
  have ih:=aRE (r:=r) (b:=b) (i:=i) (c:=c) (t:=t) (by omega)
  rw[fS,aTk,aJj]
  by_cases o:j=i+t
  ·subst o
   rw[if_pos ⟨rfl,by omega⟩,if_pos ⟨by omega,by omega⟩,ih,if_neg (by omega),Nat.add_sub_cancel_left]
  ·rw[if_neg (fun e=>o e.1),ih]
   by_cases h2:i<=j/\j<i+t
   ·rw[if_pos h2,if_pos ⟨h2.1,by omega⟩]
   ·rw[if_neg h2,if_neg (fun e=>h2 ⟨e.1,by omega⟩)]
theorem bCF(n:Nat):tr (bJL n 0)=[]:=by
 have:=vN (l:=bJL n (0:Rat)) (n:=0) (fun j _=>aGu n j)
 exact bKB (by omega)
structure vC(b:List Rat)(n:Nat)(T:List Rat×List Rat)(ka kb i:Nat)(q r:List Rat):Prop where
 lq:q.length=n
 lr:r.length+1=n+b.length
 zr:∀j,i+b.length<=j+1->co r j=0
 zq:∀j,j<i->co q j=0
 res:∃f,(tr r).length<f/\mX b f (tr q) (tr r)=T
 wd:∃t,WD (ka+t*(kb+1)) (tr r)/\t+i<=n
theorem vC.start{a b:List Rat}{ka kb n:Nat}(C:WD ka a)(h:(tr a).length+1=n+(tr b).length):vC (tr b) n (zW a b) ka kb n (bJL n 0) (tr a):=
 ⟨bKu,h,fun j o=>iF (by omega),fun j _=>aGu n j,⟨(tr a).length+1,by rw[aGJ];exact bJT _,by rw[bCF,aGJ];rfl⟩,0,by rw[aGJ,bL8];exact C.tr,by omega⟩
theorem vC.next{b:List Rat}{n:Nat}{T:List Rat×List Rat}{ka kb i:Nat}{q r:List Rat}(h:vC b n T ka kb (i+1) q r)(D:WD kb b)(hn:NF b)(p:b≠ [])(E:i<n):vC b n T ka kb i (q.set i (co r (i+b.length-1)/co b (b.length-1))) (fS r b i (co r (i+b.length-1)/co b (b.length-1)) b.length):=by
 have w:0<b.length:=bKz.2 p
 obtain⟨lq,lr,zr,zq,⟨f,hf,d⟩,t,B,F⟩:=h
 have y:i+b.length<=r.length:=by omega
 obtain⟨c,hc⟩:∃c,c=co r (i+b.length-1)/co b (b.length-1):=⟨_,rfl⟩
 rw[←hc]
 have k:co b (b.length-1)≠0:=hn p
 have m:∀j,co (fS r b i c b.length) j=co r j-c*(if i<=j then co b (j-i)else 0):=fun j=>by
  rw[aRE y]
  by_cases h1:i<=j/\j<i+b.length
  ·rw[if_pos h1,if_pos h1.1]
  ·rw[if_neg h1]
   by_cases h2:i<=j
   ·rw[if_pos h2,iF (l:=b) (by omega),Rat.mul_zero,Rat.sub_eq_add_neg,show(-0:Rat)=0 from rfl,Rat.add_zero]
   ·rw[if_neg h2,Rat.mul_zero,Rat.sub_eq_add_neg,show(-0:Rat)=0 from rfl,Rat.add_zero]
 have s:∀j,co (q.set i c) j=if j=i then c else co q j:=fun j=>by
  rw[aTk]
  by_cases h1:j=i
  ·rw[if_pos ⟨h1,by omega⟩,if_pos h1]
  ·rw[if_neg (fun e=>h1 e.1),if_neg h1]
 have v:∀j,i+b.length<=j+1->co (fS r b i c b.length) j=0:=fun j o=>by
  rw[m,if_pos (by omega)]
  by_cases h1:j+1=i+b.length
  ·rw[show j-i=b.length-1 by omega,show j=i+b.length-1 by omega,hc,Rat.div_mul_cancel k,Rat.sub_eq_add_neg,Rat.add_neg_cancel]
  ·rw[zr j (by omega),iF (l:=b) (by omega),Rat.mul_zero,Rat.sub_eq_add_neg,Rat.add_neg_cancel]
 refine⟨by rw[bKT,lq],by rw[aJj];exact lr,v,fun j o=>by rw[s,if_neg (by omega)];exact zq j (by omega), ?_, ?_⟩
 ·by_cases h0:co r (i+b.length-1)=0
  ·have c0:c=0:=by rw[hc,h0,Rat.div_def,Rat.zero_mul]
   have z:tr (q.set i c)=tr q:=aAY fun j=>by
    rw[s];split
    ·next e=>rw[e,c0,zq i (by omega)]
    ·rfl
   have u:tr (fS r b i c b.length)=tr r:=aAY fun j=>by rw[m,c0,Rat.zero_mul,Rat.sub_eq_add_neg,show(-0:Rat)=0 from rfl,Rat.add_zero]
   rw[z,u]
   exact⟨f,hf,d⟩
  ·have A:(tr r).length=i+b.length:=by
    have h1:=vN (l:=r) (n:=i+b.length) fun j o=>zr j (by omega)
    have h2:=aJq h0
    omega
   obtain⟨g,rfl⟩:∃g,f=g+1:=⟨f-1,by omega⟩
   rw[mX,if_neg (by omega),A,bKs,fG,←hc]at d
   have z:tr (wD (tr q) i c)=tr (q.set i c):=aAY fun j=>by
    rw[aAu,s,fG]
    by_cases e:j=i
    ·rw[if_pos e,if_pos e,e,zq i (by omega),Rat.zero_add]
    ·rw[if_neg e,if_neg e]
   have u:tr (oJ (tr r) b i c)=tr (fS r b i c b.length):=aAY fun j=>by rw[aDD,m,fG]
   rw[z,u]at d
   refine⟨g, ?_,d⟩
   have:=vN (l:=fS r b i c b.length) (n:=i+b.length-1) fun j o=>v j (by omega)
   omega
 ·by_cases h0:co r (i+b.length-1)=0
  ·have c0:c=0:=by rw[hc,h0,Rat.div_def,Rat.zero_mul]
   have u:tr (fS r b i c b.length)=tr r:=aAY fun j=>by rw[m,c0,Rat.zero_mul,Rat.sub_eq_add_neg,show(-0:Rat)=0 from rfl,Rat.add_zero]
   rw[u]
   exact⟨t,B,by omega⟩
  ·have A:(tr r).length=i+b.length:=by
    have h1:=vN (l:=r) (n:=i+b.length) fun j o=>zr j (by omega)
    have h2:=aJq h0
    omega
   have hs:=(B.step D k i).tr
   rw[A,fG,←hc]at hs
   have u:tr (oJ (tr r) b i c)=tr (fS r b i c b.length):=aAY fun j=>by rw[aDD,m,fG]
   rw[u]at hs
   refine⟨t+1, ?_,by omega⟩
   rw[show ka+(t+1)*(kb+1)=ka+t*(kb+1)+kb+1 by rw[Nat.succ_mul];omega]
   exact hs
theorem vC.done{b:List Rat}{n:Nat}{T:List Rat×List Rat}{ka kb:Nat}{q r:List Rat}(h:vC b n T ka kb 0 q r)(p:b≠ []):T=(tr q,tr r):=by
 have w:0<b.length:=bKz.2 p
 obtain⟨f,hf,d⟩:=h.res
 have:=vN (l:=r) (n:=b.length-1) fun j o=>h.zr j (by omega)
 cases f with
 |zero=>omega
 |succ f=>
  rw[mX,if_pos (by omega)]at d
  exact d.symm
namespace Ev
section
variable {m:Nat}
def uW(n k:Nat)(f:Nat->Rat):List TV:=bP.row (mk k f)++(bJL (n-k) aEi).flatten
theorem bBJ{n k:Nat}{f:Nat->Rat}(h:k<=n):(uW n k f).length=n*4:=by
 unfold uW
 rw[bJW,bP.row_len,aH6,iX]
 show k*4+(n-k)*4=n*4
 omega
theorem bBI{n k:Nat}{f:Nat->Rat}(h:k<n):hH (cR (f k)) (k*4) (uW n k f)=some (uW n (k+1) f):=by
 have r:(bP.row (mk k f)).length=k*4:=by rw[bP.row_len,iX];rfl
 have t:(cR (f k)).length=4:=rfl
 simp only[hH]
 rw[if_pos (by rw[t,bBJ (by omega)];omega)]
 congr 1
 unfold uW
 rw[bN3 (by rw[r];exact bJE _),bJU (by rw[r];exact bJE _),t,bN9,bLT (by rw[r];omega),r,bKA]
 rw[show k*4+4-k*4=1*4 by omega,aTV _ _ (by omega),aBS,bP.row_app,aL3,show n-k-1=n-(k+1) by omega]
theorem aXU{n:Nat}{f:Nat->Rat}:uW n n f=bP.row (mk n f):=by
 unfold uW
 rw[bKS]
 exact bKQ _
theorem aFg{k len j:Nat}(h:j<len):mI PG 35 (.ow k 0 len 4) j=some (.po k (0+j*4)):=aZf (E:=bP) eR kR sR h
theorem bIu{l:List Rat}{j:Nat}(h:j<l.length):jK 4 (j*4) (bP.row l)=some (cR (co l j)):=bP.all h
theorem aAV{l:List Rat}{j:Nat}(h:j<l.length):(j*4+4<=(bP.row l).length)=True:=by
 have e:(bP.row l).length=l.length*4:=bP.row_len l
 rw[e];exact eq_true (by omega)
theorem aCf{l:List Rat}{j:Nat}(h:j<l.length):List.take 4 (List.drop (j*4) (bP.row l))=[.b (decide ((co l j).num<0)),tW (aO (co l j).num.natAbs),.b (decide (((co l j).den:Int)<0)),tW (aO ((co l j).den:Int).natAbs)]:=by
 have e:=bIu h
 unfold jK at e
 rw[if_pos (of_eq_true (aAV h))]at e
 exact Option.some.inj e
theorem aU3{l:List Rat}{j:Nat}{q:Rat}(h:j<l.length):hH (tR q).cells (j*4) (bP.row l)=some (bP.row (l.set j q)):=bP.put (a:=q) h
theorem aZq:bO PG 209 f209 [4] []=true:=by kernel_rfl
theorem aOF{l:List Rat}{c:Rat}(h:PS 74900 l)(hc:FR 74900 c):VX (m+10) 209 [tP l,tR c]=some (tP (eH l c),false):=by
 have O:=h.1
 refine jR rfl func209 aZq rfl ?_
 simp only[f209,N1,bC,bF,bH,bG,bE,zB,zG]
 simp (disch:=first|rfl|omega)only[S1,aN,aC,aE,aM,aJ,zB,zD,aU]
 refine .up (fun k e s=>2<=s.nxt/\s.ob 0=⟨0,cR c⟩/\s.ob 1=⟨0,uW l.length k fun j=>co l j*c⟩/\e 3=some (.po 0 0)/\e 5=some (.ow 1 0 l.length 4)/\e 11=some (tP l)/\e 12=some (.int .i64 (l.length:Nat))/\e 13=some (.int .i64 (k:Nat))) l.length ?_ (dB (by omega)) ?_
 ·refine⟨bJE _,rfl,rfl, ?_, ?_, ?_, ?_, ?_⟩<;>simp (disch:=first|rfl|omega)only[S1,zB]
 ·rintro k e s r ⟨sn,T,s1,u,P,w,x,y⟩
  by_cases d:k<l.length
  ·have g1:decide (k<l.length)=true:=ak d
   have c1:=aKr (m:=m) (a:=co l k) (b:=c) ((h.co d).mono (by decide)) (hc.mono (by decide))
   have i:hH (tR (co l k*c)).cells (k*4) (uW l.length k fun j=>co l j*c)=some (uW l.length (k+1) fun j=>co l j*c):=bBI (n:=l.length) (k:=k) (f:=fun j=>co l j*c) d
   rw[aAr]at i
   have U:(0==s.nxt)=false:=by rw[ao];omega
   have V:(1==s.nxt)=false:=by rw[ao];omega
   simp (disch:=first|rfl|omega)only[S1,aC,aE,aM,aJ,zB,reduceCtorEq,zD,zH,aU,cR,u,P,w,x,y,T,s1,U,V,g1,lF,kY,aFg,vJ 142 rfl,c1 _,i]
   exact⟨d,by omega⟩
  ·have g1:decide (k<l.length)=false:=ai d
   obtain rfl:k=l.length:=by omega
   rw[aXU]at s1
   have i:PS 9000000 (mk l.length fun j=>co l j*c):=⟨by rw[iX];omega,fun q hq=>by
    obtain⟨j,o,rfl⟩:=tZ hq
    exact(h.co o).mul hc (by decide)⟩
   have hB:fV bP s (.ow 1 0 l.length 4) (mk l.length fun j=>co l j*c):= .inr ⟨1,by rw[iX];rfl,by omega,s1⟩
   obtain⟨v,W,s',B,D, -,F⟩:=aDc (orc:=VX (m+9)) (f:=182) (ts:=[]) hB (by rw[iX];omega) Can.nil (by decide) (yC (m:=m+5) i)
   have t:=F.ow.ret (bJH (fN _) (by rw[iX];omega))
   simp (disch:=first|rfl|omega)only[S1,zB,reduceCtorEq,P,x,y,g1,vJ 182 rfl,D]
   exact t
theorem bBO{l:List Rat}{c:Rat}(h:PS 74900 l)(hc:FR 74900 c):CC (VX (m+10)) 209 [tP l,tR c] (tP (eH l c)):= .of (aKj l c) (aKA l c) (aOF h hc)
theorem bEs:bO PG 91 f91 [2] []=true:=by kernel_rfl
theorem bGw{l:List Rat}(h:PS 74900 l):VX (m+10) 91 [tP l]=some (tP (dV l),false):=by
 have O:=h.1
 refine jR rfl func91 bEs rfl ?_
 simp only[f91,N1,bC,bF,bH,bG,bE,zB,zG]
 simp (disch:=first|rfl|omega)only[S1,aN,aC,aE,aM,aJ,zB,aU]
 refine .up (fun k e s=>∃v,e 3=some v/\e 6=some (tP l)/\e 7=some (.int .i64 (l.length:Nat))/\e 8=some (.int .i64 (k:Nat))/\fM bP dZ s v (mk (k-1) fun j=>co l (j+1)*(((j+1:Nat):Int):Rat))) l.length ?_ (dB (by omega)) ?_
 ·refine⟨.nil, ?_, ?_, ?_, ?_,.nil _⟩<;>simp (disch:=first|rfl|omega)only[S1,zB]
 ·rintro k e s r ⟨v,u,G,H,I,Q⟩
  by_cases d:k<l.length
  ·have g1:decide (k<l.length)=true:=ak d
   have A:fM bP dZ ((s.new [.b false,.nil,.b false,.nil]).set s.nxt ⟨0,cR (co l k)⟩) v (mk (k-1) fun j=>co l (j+1)*(((j+1:Nat):Int):Rat)):=⟨Q.bld.keep (bLw _) (fun j o=>by
    have X:(j==s.nxt)=false:=by rw[ao];omega
    rw[gX,gY,X];rfl),bJJ _,fun j o=>absurd o (bKM j),fun _ _ _ _ _=>bJJ _⟩
   by_cases h0:k=0
   ·subst h0
    simp (disch:=first|rfl|omega)only[S1,aC,aE,aM,aJ,zB,zD,zE,zF,aU,u,G,H,I,g1,lF,aOY d,bKl]
    exact⟨d,_,rfl,A⟩
   ·have g2:decide (0<k)=true:=ak (by omega)
    have fi:FR 74900 (((k:Nat):Int):Rat):=⟨aX.mono (j:=1) (show k<4294967296^1 by omega) (by decide),aX.one (by decide)⟩
    have c2:=aBw (m:=m+4) (z:=((k:Nat):Int)) (by omega) (by omega)
    have c3:=aKr (m:=m) (a:=co l k) (b:=(((k:Nat):Int):Rat)) ((h.co d).mono (by decide)) fi
    obtain⟨v',s',ea,J⟩:=A.stepR (co l k*(((k:Nat):Int):Rat)) (by rw[iX];omega)
    simp only[cR,nE,tK]at ea
    simp (disch:=first|rfl|omega)only[S1,aK,aC,aE,aM,aJ,aD,zB,reduceCtorEq,zD,zE,zH,aU,u,G,H,I,g1,g2,lF,kY,c2 _,c3 _,ea]
    exact⟨d,v',rfl,by rw[show k+1-1=(k-1)+1 by omega,aBS,show k-1+1=k by omega];exact⟨J.bld,bJJ _,fun j o=>absurd o (bKM j),fun _ _ _ _ _=>bJJ _⟩⟩
  ·have g1:decide (k<l.length)=false:=ai d
   obtain rfl:k=l.length:=by omega
   have i:PS 9000000 (mk (l.length-1) fun j=>co l (j+1)*(((j+1:Nat):Int):Rat)):=⟨by rw[iX];omega,fun q hq=>by
    obtain⟨j,o,rfl⟩:=tZ hq
    exact(h.co (by omega)).mul (k:=9000000) (j:=74900) ⟨aX.mono (j:=1) (show j+1<4294967296^1 by omega) (by decide),aX.one (by decide)⟩ (by decide)⟩
   obtain⟨v2,W,s',B,D, -,F⟩:=aDc (orc:=VX (m+9)) (f:=182) (ts:=[]) Q.bld (by rw[iX];omega) Can.nil (by decide) (yC (m:=m+5) i)
   have t:=F.ow.ret (bJH (fN _) (by rw[iX];omega))
   simp (disch:=first|rfl|omega)only[S1,zB,reduceCtorEq,u,H,I,g1,vJ 182 rfl,D]
   exact t
theorem aKv{l:List Rat}(h:PS 74900 l):CC (VX (m+10)) 91 [tP l] (tP (dV l)):= .of (iM l) (jD l) (bGw h)
theorem aYK:bO PG 134 f134 [2] []=true:=by kernel_rfl
theorem bCt{a:List Rat}(h:PS 74900 a):VX (m+11) 134 [tP a]=some (tP (bL a),false):=by
 have K:=fN a
 have C:PS 74900 (tr a):=⟨bJH K h.1,fun q hq=>h.2 q (yJ hq)⟩
 have O:=C.1
 obtain⟨Y,s1, -,B,L⟩:=aAs (orc:=VX (m+10)) (iM a) (jD a) (yC (m:=m+6) (l:=a) ⟨h.1,fun q hq=>(h.2 q hq).mono (by decide)⟩) dZ
 refine jR rfl func134 aYK rfl ?_
 simp only[f134,N1,bC,bF,bH,bG,bE,zB,zG]
 rcases L with ⟨R,rfl,rfl⟩|⟨p,rfl,rfl⟩
 ·have dz:decide (((0:Nat):Int)=0)=true:=rfl
  simp (disch:=first|rfl|omega)only[S1,aN,aC,aE,aM,aJ,zB,reduceCtorEq,aU,vJ 182 rfl,B,aQI,dz]
  rw[show bL a=tr a by unfold bL eH;rw[R];rfl,R]
  rfl
 ·have i:0<(tr a).length:=bKz.2 p
  have g1:decide (((tr a).length:Int)=0)=false:=ai (by omega)
  have L:=aBw (m:=m+5) (z:=((1:Nat):Int)) (by decide) (by decide)
  have f2:=aT2 (m:=m+1) (a:=((((1:Nat):Int)):Rat)) (b:=gV a) ⟨aX.one (by decide),aX.one (by decide)⟩ (C.co (by omega)) (tY p)
  have f2:CC (VX (m+10)) 202 [tR ((((1:Nat):Int)):Rat),tR (co (tr a) ((tr a).length-1))] (.tp [tR (1/gV a),.int .i64 ((0:Nat):Int)]):=f2
  have fi:FR 74900 (1/gV a):=by
   rw[Rat.div_def,Rat.one_mul]
   exact(show FR 74900 (gV a)from C.co (by omega)).inv (tY p)
  have c3:=aOF (m:=m) (l:=tr a) (c:=1/gV a) C fi
  have hB:fV bP (((dZ.new (bP.row (tr a))).new [.b false,.nil,.b false,.nil]).set 1 ⟨0,cR (1/gV a)⟩) (.ow 0 0 (tr a).length 4) (tr a):= .inr ⟨0,rfl,(show 0<2 by decide),rfl⟩
  obtain⟨t1,t2, -,S, -, -⟩:=hB.call (orc:=VX (m+10)) (f:=209) (ts:=[tR (1/gV a)]) (Can.cons (yR _) Can.nil) (by simp only[bT,vV];decide) (by show(tr a).length*9<=90000000;omega) c3
  simp only[cR]at S
  have g:(tr a).length-1<(tr a).length:=by omega
  have M:=aAV (l:=tr a) g
  have N:=aCf (l:=tr a) g
  simp (disch:=first|rfl|omega)only[S1,aN,aC,aE,aM,aJ,zB,reduceCtorEq,zD,zG,zH,aU,vJ 182 rfl,B,aGa,g1,aFg,M,N,L _,f2 _,vJ 209 rfl,S]
  rfl
theorem aBN{a:List Rat}(h:PS 74900 a):CC (VX (m+11)) 134 [tP a] (tP (bL a)):= .of (iM a) (jD a) (bCt h)
theorem bCG:bO PG 218 f218 [2] []=true:=by kernel_rfl
theorem bDj{n:Nat}(hn:0<n)(I:n<=1000):VX (m+6) 218 [.int .i64 (n:Nat)]=some (zX (bJL n 0)):=by
 have d:bJL n (0:Rat)≠ []:=fun e=>by have:=congrArg bKU e;rw[bKu]at this;simp at this;omega
 have z0:=aBw (m:=m) (z:=((0:Nat):Int)) (by decide) (by decide)
 have z0:CC (VX (m+5)) 43 [.int .i64 ((0:Nat):Int)] (tR 0):=z0
 have hB:fV bP (dZ.new (cR 0)) (.ow 0 0 1 4) [(0:Rat)]:= .inr ⟨0,rfl,bLU,by rw[aL3];rfl⟩
 obtain⟨v,s1,s',q1,W, -,hO⟩:=aDc (orc:=VX (m+5)) (f:=277) (ts:=[.int .i64 (n:Nat)]) hB (by decide) (yP _ _) (by simp only[bT,cV];decide) (bIa (m:=m+2) (q:=0) hn I)
 have W:fF (VX (m+5)) _ [.ow 0 0 1 4,.int .i64 (n:Nat)] (dZ.new [.b (decide ((0:Rat).num<0)),tW (aO (0:Rat).num.natAbs),.b (decide (((0:Rat).den:Int)<0)),tW (aO ((0:Rat).den:Int).natAbs)])=_:=W
 rcases hO with ⟨K,_⟩|⟨_,rfl,rfl⟩
 ·exact absurd K d
 rw[aBX d]
 refine bX rfl func218 bCG rfl ?_
 simp only[f218,N1,bC,bF,bH,bG,bE,zB,zG]
 simp (disch:=first|rfl|omega)only[S1,aC,aE,aM,aJ,aD,zB,reduceCtorEq,zD,zE,zH,aU,vJ 43 rfl,z0 _,vJ 277 rfl,W]
 have hf:=aFY (s:=s1.new (bP.row (bJL n 0))) (k:=s1.nxt) (bJT _) (by rw[gY,beq_self_eq_true];rfl) d (by rw[bKu];exact I)
 rw[bKu]at hf
 exact hf
theorem OwP.keep{s s':VS}{v:TV}{l:List Rat}(h:OwP s s' v l):s.nxt<=s'.nxt/\∀j,j<s.nxt->s'.ob j=s.ob j:=by
 rcases h with ⟨_,_,rfl⟩|⟨_,_,rfl⟩
 ·exact⟨bJE _,fun _ _=>rfl⟩
 ·exact⟨bLw _,fun j hj=>if_neg (by omega)⟩
theorem OwP.later{s s' C:VS}{v:TV}{l:List Rat}(h:OwP s s' v l)(A:∀j,j<s'.nxt->j≠1->C.ob j=s'.ob j)(hn:s'.nxt<=C.nxt)(h1:1<s.nxt):Ow C v l:=by
 rcases h with ⟨h1,h2,_⟩|⟨h2,rfl,rfl⟩
 ·exact .inl ⟨h1,h2⟩
 ·refine .inr ⟨h2,s.nxt,rfl,bJK (bJT _) hn, ?_⟩
  rw[A s.nxt (bJT _) (by omega)]
  exact if_pos rfl
theorem bGA{l:List Rat}(h0:l≠ []):lA (bP.row l)=false:=by
 cases l with
 |nil=>exact absurd rfl h0
 |cons q l=>
  show(fX (.b (decide (q.num<0)))&&(fX (tW (aO q.num.natAbs))&&_))=false
  have:fX (tW (aO q.num.natAbs))=false:=by unfold tW;cases List.map wc (aO q.num.natAbs)<;>rfl
  rw[this];rfl
theorem bIS{s:VS}{X v2:TV}{u l2:List Rat}(h1:Ow s X u)(h2:Ow s v2 l2)(hd:∀k o n z k' o' n' z',X= .ow k o n z->v2= .ow k' o' n' z'->k≠k')(b1:u.length<=1000)(b2:l2.length<=1000):(dJ s [X,v2]).map (nX true)=some (.tp [tP u,tP l2],false):=by
 have close2:∃t s',cY cL s [v2]=some ([t],s')/\iB t=tP l2/\Rest s v2 s':=by
  rcases h2 with ⟨rfl,rfl⟩|⟨_,k,rfl,A,J⟩
  ·exact⟨.em,s,qR (Can.cons cQ.em Can.nil).1 (by simp only[bT,cV];decide),rfl,Rest.refl _ _⟩
  ·obtain⟨t,s',w,G,e3⟩:=fV.close (E:=bP) (n:=99999998) (.inr ⟨k,rfl,A,J⟩) (by show l2.length*9+1<=99999998;omega)
   refine⟨t,s', ?_,G,e3⟩
   show cY (99999999+1) s [_]=_
   simp only[cY]
   rw[show(4:Nat)=bP.sz from rfl,w]
   rfl
 obtain⟨t,s',w,G,e3⟩:=close2
 rcases h1 with ⟨rfl,rfl⟩|⟨d,k,rfl,A,J⟩
 ·have:cY cL s [.em,v2]=some ([.em,t],s'):=by
   have e4:cY 99999999 s [v2]=some ([t],s'):=by
    rcases h2 with ⟨rfl,rfl⟩|⟨_,k,rfl,A,J⟩
    ·have:=(nC 99999999).2 (s:=s) (l:=[TV.em]) (Can.cons cQ.em Can.nil).1 (by simp only[bT,cV];decide)
     rw[this]
     have h3:=qR (s:=s) (l:=[TV.em]) (Can.cons cQ.em Can.nil).1 (by simp only[bT,cV];decide)
     rw[h3]at w
     exact w
    ·obtain⟨t',b4,f1,f2,f3⟩:=fV.close (E:=bP) (n:=99999997) (.inr ⟨k,rfl,A,J⟩) (by show l2.length*9+1<=99999997;omega)
     have g1:=aJf (E:=bP) (n:=99999997) A J (by show l2.length*9+1<=99999997;omega)
     have g2:=aJf (E:=bP) (n:=99999998) A J (by show l2.length*9+1<=99999998;omega)
     have L:cY (99999999+1) s [.ow k 0 l2.length 4]=some ([t],s'):=w
     simp only[cY]at L
     rw[show(4:Nat)=bP.sz from rfl,g2]at L
     show cY (99999998+1) s [_]=_
     simp only[cY]
     rw[show(4:Nat)=bP.sz from rfl,g1]
     exact L
   show((fE 99999999 s TV.em).bind fun p=>(cY 99999999 p.2 [v2]).map fun q=>(p.1::q.1,q.2))=_
   rw[(nC 99999999).1 (t:=TV.em) rfl (by simp only[cV];decide)]
   simp only[bJM]
   rw[e4]
   rfl
  have hv:dJ s [.em,v2]=(cY cL s [.em,v2]).map fun p=>(.tp (cG p.1),false):=rfl
  rw[hv,this]
  simp only[bKe,cG,G]
  rfl
 ·have Y:(bP.row u).length=u.length*4:=bP.row_len u
  have hc:=qR (s:=s) (bP.row_can u).1 (bJH (bP.row_siz u) (by show u.length*9+1<=100000000;omega))
  have l':s'.ob k=⟨0,bP.row u⟩:=by rw[e3.2 k A (fun o n z e=>hd k 0 u.length 4 k o n z rfl e rfl),J]
  simp only[dJ,J]
  rw[if_pos ⟨trivial,A,trivial,Y,by decide,bGA d⟩,hc]
  simp only[bJM,w,l',if_true,(bP.row_can u).2,cG,G,bKe]
  show some (nX true (TV.tp [.im 4 (bP.row u),tP l2],true))=_
  rw[show tP u= .im 4 (bP.row u) by
   cases u with
   |nil=>exact absurd rfl d
   |cons a l=>exact aB8 (EC.row_ne (E:=bP))]
  rfl
theorem bBn:bO PG 138 f138 [5,4,53,56,54,55,29] []=true:=by kernel_rfl
theorem bEo{z:Int}{n:Nat}(h:max 0 z=(n:Int)):vmm .geq [.int .i64 ((0:Nat):Int),.int .i64 z]=some (.int .i64 (n:Int)):=by
 show(if IntKind.i64=IntKind.i64 then some (TV.int .i64 (max ((0:Nat):Int) z))else none)=_
 rw[if_pos rfl,show((0:Nat):Int)=0 from rfl,h]
set_option maxHeartbeats 1000000 in
theorem bEt{a b:List Rat}{ka kb:Nat}(Z:WD ka a)(I:WD kb b)(M:a.length<=400)(N:b.length<=400)(B:tr b≠ [])(D:(tr b).length<=(tr a).length)(A:ka+((tr a).length-(tr b).length)*(kb+1)<=592000)(O:kb<=592000):VX (m+11) 138 [tP a,tP b]=some (.tp [tP (qC a b),tP (fH a b)],false):=by
 have m':=fN a
 have p':=fN b
 have q':0<(tr b).length:=bKz.2 B
 have r':tr a≠ []:=fun e=>by rw[e]at D;exact absurd (bJK q' D) (by decide)
 have pa:PS 9000000 a:=Z.ps (by omega) (by omega)
 have pb:PS 9000000 b:=I.ps (by omega) (by omega)
 obtain⟨n,hn⟩:∃n,(tr a).length+1=n+(tr b).length:=⟨(tr a).length+1-(tr b).length,by omega⟩
 have a':0<n:=by omega
 obtain⟨X,s1, -,q1,o1⟩:=aAs (orc:=VX (m+10)) (iM b) (jD b) (yC (m:=m+6) pb) dZ
 rcases o1 with ⟨K,_⟩|⟨_,rfl,rfl⟩
 ·exact absurd K B
 obtain⟨v2,C, -,W,o2⟩:=aAs (orc:=VX (m+10)) (iM a) (jD a) (yC (m:=m+6) pa) (dZ.new (bP.row (tr b)))
 rcases o2 with ⟨K,_⟩|⟨_,rfl,rfl⟩
 ·exact absurd K r'
 obtain⟨v3,s3, -,q3,o3⟩:=aAs (orc:=VX (m+10)) (yP .i64 (n:Int)) (aAQ _ _) (bDj (m:=m+4) a' (by omega)) ((dZ.new (bP.row (tr b))).new (bP.row (tr a)))
 have d:bJL n (0:Rat)≠ []:=fun e=>by have:=congrArg bKU e;rw[bKu]at this;simp at this;omega
 rcases o3 with ⟨K,_⟩|⟨_,rfl,rfl⟩
 ·exact absurd K d
 rw[bKu]at q3
 have u':vC (tr b) n (zW a b) ka kb n (bJL n 0) (tr a):=vC.start Z hn
 have hm:(tr a).length-(tr b).length+1=n:=by omega
 have hx:=bEo (z:=(n:Int)) (n:=n) (by omega)
 have v':iz n=((n-1:Nat):Int):=wA a'
 have w':(tr a).length-(tr b).length=n-1:=by omega
 have x':n-1+1=n:=by omega
 refine jR rfl func138 bBn rfl ?_
 simp only[f138,N1,bC,bF,bH,bG,bE,zB,zG]
 simp (disch:=first|rfl|omega)only[S1,aN,aC,aE,aM,aJ,zB,zD,vJ 182 rfl,q1,W,vJ 218 rfl,q3,aGa,w',x',hx]
 have b':∀t,t+1<=n->ka+t*(kb+1)<=592000:=fun t ht=>by
  have:=Nat.mul_le_mul_right (kb+1) (show t<=n-1 by omega)
  rw[show(tr a).length-(tr b).length=n-1 by omega]at A
  omega
 have c':∀t,t<=n->ka+t*(kb+1)<=288000000:=fun t ht=>by
  have:=Nat.mul_le_mul (show t<=401 by omega) (show kb+1<=592001 by omega)
  omega
 have wtb:=I.tr
 have ntb:NF (tr b):= .tr b
 have y':PS 18500 (tr b):=wtb.ps (by omega) (by omega)
 have a0:(tr a).length<=400:=by omega
 clear q1 W q3 pa pb Z I
 refine .loop (fun k e s=>∃q r,3<=s.nxt/\s.ob 0=⟨0,bP.row (tr b)⟩/\s.ob 1=⟨0,bP.row r⟩/\s.ob 2=⟨0,bP.row q⟩/\e 1=some (.ow 0 0 (tr b).length 4)/\e 6=some (.ow 1 0 (tr a).length 4)/\e 7=some (.ow 2 0 n 4)/\e 8=some (.int .i64 (iz k))/\k<=n/\vC (tr b) n (zW a b) ka kb k q r/\∀j,FR 37000 (co q j)) n ?_ (dB (by omega)) ?_
 ·refine⟨bJL n 0,tr a,bJE _,rfl,rfl,rfl, ?_, ?_, ?_, ?_,bJE _,u',fun j=>by rw[aGu];exact .zero (by decide)⟩<;>simp (disch:=first|rfl|omega)only[S1,zB]
 ·rintro k e s ⟨q,r,sn,P,s1,C,w,Q,R,S,b5,T,hq⟩
  have lr:r.length=(tr a).length:=by have:=T.lr;omega
  have lq:=T.lq
  by_cases h0:k=0
  ·subst h0
   have hd:=T.done B
   have a2:qC a b=tr q:=by rw[qC,hd]
   have a3:fH a b=tr r:=by rw[fH,hd]
   rw[a2,a3]
   have lbn:=T.lr
   have a4:fV bP s (.ow 2 0 n 4) q:= .inr ⟨2,by rw[lq];rfl,by omega,C⟩
   have P1:PS 9000000 q:=⟨by omega,fun x hx=>by
    obtain⟨j,_,rfl⟩:=aAT hx
    exact(hq j).mono (by decide)⟩
   obtain⟨X,u1,U, -,p1,R1,O1⟩:=aDc (orc:=VX (m+10)) (f:=182) (ts:=[]) a4 (by omega) Can.nil (by decide) (yC (m:=m+6) P1)
   have n1:=R1.1
   have k1:=O1.keep
   have z1:U.ob 1=⟨0,bP.row r⟩:=by rw[k1.2 1 (by omega),R1.2 1 (by omega) (fun o n z e=>by cases e),s1]
   have a5:fV bP U (.ow 1 0 (tr a).length 4) r:= .inr ⟨1,by rw[lr];rfl,by have:=k1.1;omega,z1⟩
   obtain⟨t,hw,ht⟩:=T.wd
   have P2:PS 9000000 r:=⟨by omega,fun x hx=>by
    obtain⟨j,_,rfl⟩:=aAT hx
    rw[←fG]
    exact coR (hw.ps (k:=9000000) (by have:=c' t (by omega);omega) (by have:=fN r;omega)) (by decide) j⟩
   obtain⟨v2,u2,a6, -,p2,R2,O2⟩:=aDc (orc:=VX (m+10)) (f:=182) (ts:=[]) a5 (by omega) Can.nil (by decide) (yC (m:=m+6) P2)
   have n2:=R2.1
   have k2:=O2.keep
   have hv:=bIS (s:=a6) (O1.later (fun j hj d=>by rw[k2.2 j (by omega),R2.2 j hj (fun o n z e=>d (by cases e;omega))]) (by have:=k1.1;have:=k2.1;omega) (by omega)) O2.ow (fun k o n z k' o' n' z' w G=>by
    rcases O1 with ⟨_,h,_⟩|⟨_,h,h'⟩
    ·rw[h]at w;cases w
    ·rcases O2 with ⟨_,g,_⟩|⟨_,g,_⟩
     ·rw[g]at G;cases G
     ·rw[h]at w;rw[g]at G
      cases w;cases G
      have:U.nxt=u1.nxt+1:=by rw[h'];rfl
      omega) (by have:=fN q;omega) (by have:=fN r;omega)
   simp (disch:=first|rfl|omega)only[S1,aC,aE,aM,aJ,zB,reduceCtorEq,Q,R,S,bKl,vJ 182 rfl,p1,p2]
   exact hv
  ·obtain⟨i,rfl⟩:∃i,k=i+1:=⟨k-1,by omega⟩
   have g1:decide (0<i+1)=true:=ak (by omega)
   have hN:=T.next wtb ntb B (by omega)
   obtain⟨t,hw,ht⟩:=T.wd
   have hr:∀j,FR 18500 (co r j):=fun j=>by
    rw[←fG]
    exact coR (hw.ps (k:=18500) (by have:=b' t (by omega);omega) (by have:=fN r;omega)) (by decide) j
   obtain⟨lb,y⟩:∃lb,(tr b).length=lb:=⟨_,rfl⟩
   have H:∀j,FR 18500 (co (tr b) j):=coR y' (by decide)
   have F:co (tr b) (lb-1)≠0:=by rw[←y];exact ntb B
   obtain⟨c,hc⟩:∃c,c=co r (i+lb-1)/co (tr b) (lb-1):=⟨_,rfl⟩
   have fc:FR 37000 c:=by rw[hc];exact(hr _).div (H _) F (by decide)
   have d':i+lb-1<r.length:=by omega
   have e':lb-1<(tr b).length:=by omega
   have a7:i<q.length:=by omega
   have c1:=aT2 (m:=m+1) (a:=co r (i+lb-1)) (b:=co (tr b) (lb-1)) ((hr _).mono (by decide)) ((H _).mono (by decide)) F
   rw[←hc]at c1
   have u:=aAV (l:=r) d'
   have l2:=aCf (l:=r) d'
   have l3:=aAV (l:=tr b) e'
   have l4:=aCf (l:=tr b) e'
   have l5:=aU3 (l:=q) (q:=c) a7
   rw[aAr]at l5
   rw[y]at hN
   rw[←hc]at hN
   have fi:i+lb-1<(tr a).length:=by omega
   have fs:i+lb<=1000:=by omega
   have b3:0<lb:=by omega
   clear b' c' hw ht A D hn m' p' M N a0 O
   simp (disch:=first|rfl|omega)only[S1,aN,aC,aE,aM,aJ,zB,reduceCtorEq,zD,aU,w,Q,R,S,P,s1,C,bJJ,bKs,aGa,aFg,y,u,l2,l3,l4,l5,c1 _]
   refine .up (fun t e s=>3<=s.nxt/\s.ob 0=⟨0,bP.row (tr b)⟩/\s.ob 1=⟨0,bP.row (YtmjoaipkaddkbaaGreatDoor.fS r (tr b) i c t)⟩/\s.ob 2=⟨0,bP.row (q.set i c)⟩/\e 1=some (.ow 0 0 lb 4)/\e 6=some (.ow 1 0 (tr a).length 4)/\e 7=some (.ow 2 0 n 4)/\e 8=some (.int .i64 (i:Nat))/\e 53=some (.ow 0 0 lb 4)/\e 54=some (.int .i64 (lb:Nat))/\e 55=some (.int .i64 (t:Nat))) lb ?_ (dB (by omega)) ?_
   ·refine⟨?_, ?_, ?_, ?_, ?_, ?_, ?_, ?_, ?_, ?_, ?_⟩<;>first|(simp (disch:=first|rfl|omega)only[S1,zB,w,Q,R,S,sn,P,s1,C,y];done)|(simp (disch:=first|rfl|omega)only[S1,zB,S,s1];rfl)
   ·rintro t e s ht ⟨sn,P,s1,C,w,Q,R,S,f',g',i'⟩
    have b0:(0==s.nxt)=false:=by rw[ao];omega
    have b1:(1==s.nxt)=false:=by rw[ao];omega
    have b2:(2==s.nxt)=false:=by rw[ao];omega
    by_cases V:t<lb
    ·have g2:decide (t<lb)=true:=ak V
     have b6:=YtmjoaipkaddkbaaGreatDoor.aJj r (tr b) i c t
     have h1:t<(tr b).length:=by omega
     have h2:i+t<(YtmjoaipkaddkbaaGreatDoor.fS r (tr b) i c t).length:=by omega
     have h3:i<(q.set i c).length:=by rw[bKT];omega
     have j':co (YtmjoaipkaddkbaaGreatDoor.fS r (tr b) i c t) (i+t)=co r (i+t):=by rw[YtmjoaipkaddkbaaGreatDoor.aRE (by omega),if_neg (by omega)]
     have a8:co (q.set i c) i=c:=by rw[YtmjoaipkaddkbaaGreatDoor.aTk,if_pos ⟨rfl,by omega⟩]
     have c2:=aKr (m:=m+1) (a:=c) (b:=co (tr b) t) (fc.mono (by decide)) ((H t).mono (by decide))
     have c3:=bG1 (m:=m) (a:=co r (i+t)) (b:=c*co (tr b) t) ((hr _).mono (by decide)) (fc.mul ((H t).mono (by decide)) (by decide))
     have u:=aAV (l:=tr b) h1
     have l2:=aCf (l:=tr b) h1
     have l3:=aAV (l:=YtmjoaipkaddkbaaGreatDoor.fS r (tr b) i c t) h2
     have l4:=aCf (l:=YtmjoaipkaddkbaaGreatDoor.fS r (tr b) i c t) h2
     rw[j']at l4
     have l5:=aAV (l:=q.set i c) h3
     have l6:=aCf (l:=q.set i c) h3
     rw[a8]at l6
     have l7:=aU3 (l:=YtmjoaipkaddkbaaGreatDoor.fS r (tr b) i c t) (q:=co r (i+t)-c*co (tr b) t) h2
     rw[aAr]at l7
     have a9:(YtmjoaipkaddkbaaGreatDoor.fS r (tr b) i c t).set (i+t) (co r (i+t)-c*co (tr b) t)=YtmjoaipkaddkbaaGreatDoor.fS r (tr b) i c (t+1):=by rw[YtmjoaipkaddkbaaGreatDoor.fS,j']
     rw[a9]at l7
     have fit:i+t<(tr a).length:=by omega
     have fin:i<n:=by omega
     simp (disch:=first|rfl|omega)only[S1,aC,aE,aM,aJ,zB,reduceCtorEq,zD,zH,aU,w,Q,R,S,f',g',i',P,s1,C,b0,b1,b2,g2,aFg,u,l2,l3,l4,l5,l6,l7,c2 _,c3 _]
     exact⟨V,by omega⟩
    ·have g2:decide (t<lb)=false:=ai V
     obtain rfl:t=lb:=by omega
     simp (disch:=first|rfl|omega)only[S1,aC,aE,aM,aJ,zB,zC,reduceCtorEq,w,Q,R,S,g',i',sn,P,s1,C,g2]
     exact⟨i,bJT _,_,_,rfl,rfl,rfl,by omega,hN,fun j=>by
      rw[YtmjoaipkaddkbaaGreatDoor.aTk];split
      ·exact fc
      ·exact hq j⟩
theorem aJK{a b:List Rat}{ka kb:Nat}(Z:WD ka a)(I:WD kb b)(M:a.length<=400)(N:b.length<=400)(B:tr b≠ [])(D:(tr b).length<=(tr a).length)(A:ka+((tr a).length-(tr b).length)*(kb+1)<=592000)(O:kb<=592000):CC (VX (m+11)) 138 [tP a,tP b] (.tp [tP (qC a b),tP (fH a b)]):= .of (vS a b) (vY a b) (bEt Z I M N B D A O)
end
section
variable {m:Nat}
theorem bEE(l u:List Rat)(e:Int):Can [tP l,tP u,.int .i64 e]:=Can.cons (uC l) (Can.cons (uC u) (Can.cons (cQ.int _ _) Can.nil))
theorem bAW{s:VS}{l u:List Rat}{e:Int}:dJ s [tP l,tP u,.int .i64 e]=some (.tp [tP l,tP u,.int .i64 e],false):=aBQ (bEE l u e) (by simp only[bT,vZ,cV];decide)
theorem bGq{a b c:TV}:nX true (.tp [a,b,c],false)=(.tp [a,b,c],false):=rfl
theorem aWL:bO PG 208 f208 [6,5,4] []=true:=by kernel_rfl
theorem aZi{a b:List Rat}{ka kb:Nat}(o:WD ka a)(i:WD kb b)(d:a.length<=400)(h:b.length<=400)(j:tr b≠ [])(r:(tr b).length<=(tr a).length)(y:ka+((tr a).length-(tr b).length)*(kb+1)<=592000)(t:kb<=592000):VX (m+12) 208 [tP a,tP b]=some (.tp [tP (qC a b),tP (fH a b),.int .i64 ((0:Nat):Int)],false):=by
 have z:0<(tr b).length:=bKz.2 j
 have c1:=aIm (m:=m+6) (l:=b) (i.ps (by omega) (by omega))
 rw[wA z]at c1
 have c2:=aJK (m:=m) o i d h j r y t
 refine jR rfl func208 aWL rfl ?_
 simp only[f208,N1,bC,bF,bH,bG,bE,zB,zG]
 simp (disch:=first|rfl|omega)only[S1,aC,aE,aM,aJ,zB,reduceCtorEq,zD,aU,vJ 90 rfl,c1 _,bKM,vJ 138 rfl,c2 _,bAW]
theorem aY2{a b:List Rat}{ka kb:Nat}(o:WD ka a)(i:WD kb b)(d:a.length<=400)(h:b.length<=400)(j:tr b≠ [])(r:(tr b).length<=(tr a).length)(y:ka+((tr a).length-(tr b).length)*(kb+1)<=592000)(t:kb<=592000):CC (VX (m+12)) 208 [tP a,tP b] (.tp [tP (qC a b),tP (fH a b),.int .i64 ((0:Nat):Int)]):= .of (vS a b) (vY a b) (aZi o i d h j r y t)
theorem bB7:bO PG 54 f54 [4] []=true:=by kernel_rfl
theorem bEq{a b:List Rat}{k:Nat}(o:WD k a)(i:WD k b)(d:a.length<=400)(h:b.length<=400)(w:(tr b).length<(tr a).length)(A:(k+1)*3^((tr a).length-1)<=592000):VX (m+12) 54 [tP a,tP b]=some (tP (gF a b),false):=by
 have y:k<=592000:=bJH (bJH (bLw k) (bM9 _ (Nat.pow_pos (by decide)))) A
 have f1:=aBN (m:=m) (a:=a) (o.ps (by omega) (by omega))
 have f2:=aBN (m:=m) (a:=b) (i.ps (by omega) (by omega))
 have la:=kX a
 have lb:=kX b
 have H:=fN a
 refine jR rfl func54 bB7 rfl ?_
 simp only[f54,N1,bC,bF,bH,bG,bE,zB,zG]
 simp (disch:=first|rfl|omega)only[S1,aC,aE,aM,aJ,zB,zD,vJ 134 rfl,f1 _,f2 _]
 refine .loop (fun n e s=>∃p q f,s=dZ/\e 0=some (tP p)/\e 1=some (tP q)/\qE f p q=gF a b/\NF p/\NF q/\q.length<f/\q.length<p.length/\p.length<=(tr a).length/\WD ((k+1)*3^((tr a).length-p.length)-1) p/\WD ((k+1)*3^((tr a).length-p.length)-1) q/\n=q.length) (bL b).length ?_ (dB (by have:=fN b;omega)) ?_
 ·refine⟨bL a,bL b,(bL b).length+1,rfl, ?_, ?_,rfl,.pmonic a,.pmonic b,bJT _,by omega,by omega, ?_, ?_,rfl⟩
  ·simp (disch:=first|rfl|omega)only[S1,zB]
  ·simp (disch:=first|rfl|omega)only[S1,zB]
  ·rw[la,bKS,bLe,Nat.mul_one];exact o.monic
  ·rw[la,bKS,bLe,Nat.mul_one];exact i.monic
 ·rintro n e s ⟨p,q,f,rfl,e0,D,E,np,nq,hf,I,F,wp,wq,rfl⟩
  obtain⟨f,rfl⟩:∃g,f=g+1:=⟨f-1,by omega⟩
  by_cases hc:0<q.length
  ·have h1:decide (0<q.length)=true:=ak hc
   have v:q≠ []:=bKz.1 hc
   obtain⟨G,J,K⟩:=aBR wp wq np nq v I F (Nat.succ_le_succ (bJJ k))
   have wk:∀x,1<=x->x<=(tr a).length->(k+1)*3^((tr a).length-x)-1<=592000:=fun x h1 h2=>by
    have:=bK5 (k+1) (bK2 (show 0<3 by decide) (show(tr a).length-x<=(tr a).length-1 by omega))
    omega
   obtain⟨B,C⟩:=aBv (a:=p) (b:=q) (by rw[nq.eq];exact v)
   rw[nq.eq]at B
   have wkp:=wk p.length (by omega) F
   have c1:=aJK (m:=m) (a:=p) (b:=q) wp wq (by omega) (by omega) (by rw[nq.eq];exact v) (by rw[np.eq,nq.eq];omega) (by rw[np.eq,nq.eq];omega) (by omega)
   have c2:=aBN (m:=m) (a:=fH p q) (G.ps (by have:=wk q.length (by omega) (by omega);omega) (by omega))
   simp (disch:=first|rfl|omega)only[S1,aN,aC,aE,aM,aJ,zB,aU,e0,D,h1,vJ 138 rfl,c1 _,vJ 134 rfl,c2 _]
   refine⟨(bL (fH p q)).length, ?_,q,bL (fH p q),f,rfl,rfl, ?_,nq,.pmonic _, ?_, ?_,by omega,J,G.monic,rfl⟩
   ·rw[kX,C.eq];exact B
   ·rw[←E,qE,if_neg v]
   ·rw[kX,C.eq];omega
   ·rw[kX,C.eq];exact B
  ·have h1:decide (0<q.length)=false:=ai hc
   have v:q=[]:=bKB (by omega)
   simp (disch:=first|rfl|omega)only[S1,aN,aC,aE,aM,aJ,zB,reduceCtorEq,aU,e0,D,h1]
   rw[←E,qE,if_pos v]
theorem aQq{a b:List Rat}{k:Nat}(o:WD k a)(i:WD k b)(d:a.length<=400)(h:b.length<=400)(w:(tr b).length<(tr a).length)(A:(k+1)*3^((tr a).length-1)<=592000):CC (VX (m+12)) 54 [tP a,tP b] (tP (gF a b)):= .of (vS a b) (vY a b) (bEq o i d h w A)
theorem bAl:bO PG 207 f207 [2] []=true:=by kernel_rfl
theorem bDL{a:List Rat}{k:Nat}(j:WD k a)(g:a.length<=400)(h2:2<=(tr a).length)(C:gF a (dV a)=[1])(y:(k+11)*3^((tr a).length-1)<=592000):VX (m+13) 207 [tP a]=some (tP (sP a),false):=by
 have D:k+11<=592000:=bJH (bM9 _ (Nat.pow_pos (by decide))) y
 have E:(k+11)*3<=592000:=bJH (bK5 _ (show 3<=3^((tr a).length-1)from bK2 (n:=3) (show 0<3 by decide) (show 1<=(tr a).length-1 by omega))) y
 have la:=kX a
 have ta:=fN a
 have t0:tr a≠ []:=fun e=>by rw[e]at h2;exact absurd h2 (by decide)
 have wm:=j.monic
 have f1:=aBN (m:=m+1) (a:=a) (j.ps (by omega) (by omega))
 have f2:=aKv (m:=m+2) (l:=bL a) (wm.ps (by omega) (by omega))
 have ld:=aBG (bL a)
 have f3:=aQq (m:=m) (a:=bL a) (b:=dV (bL a)) (wm.mono (show k<=k+10 by omega)) (wm.der (by omega)) (by omega) (by omega) (by rw[(NF.pmonic a).eq,(NF.pder _).eq];omega) (by rw[(NF.pmonic a).eq,la];exact y)
 rw[aIa a t0,C]at f3
 have t1:tr [(1:Rat)]=[1]:=NF.eq fun _=>by show(1:Rat)≠0;decide
 have f4:=aJK (m:=m+1) (a:=bL a) (b:=[1]) wm WD.one1 (by omega) (by decide) (by rw[t1];simp) (by rw[(NF.pmonic a).eq,t1,la];show 1<=_;omega) (by rw[(NF.pmonic a).eq,t1,la];show k+((tr a).length-1)*2<=592000;omega) (by decide)
 rw[aIP,(NF.pmonic a).eq]at f4
 have f5:=aBN (m:=m+1) (a:=bL a) (wm.ps (by omega) (by omega))
 rw[aEQ]at f5
 have A:decide (((bL a).length:Int)=0)=false:=ai (by omega)
 have F:decide ((bL a).length=0)=false:=ai (by omega)
 rw[aJ9 t0 C]
 clear j wm D E
 refine jR rfl func207 bAl rfl ?_
 simp only[f207,N1,bC,bF,bH,bG,bE,zB,zG]
 simp (disch:=first|rfl|omega)only[S1,aN,aC,aE,aM,aJ,zB,reduceCtorEq,aU,A,vJ 134 rfl,f1 _,f5 _,vJ 91 rfl,f2 _,vJ 54 rfl,f3 _,vJ 138 rfl,f4 _]
theorem bCU{a:List Rat}{k:Nat}(j:WD k a)(g:a.length<=400)(h2:2<=(tr a).length)(C:gF a (dV a)=[1])(y:(k+11)*3^((tr a).length-1)<=592000):CC (VX (m+13)) 207 [tP a] (tP (sP a)):= .of (iM a) (jD a) (bDL j g h2 C y)
theorem bCi:bO PG 210 f210 [2,31,25,17,20,18,19] []=true:=by kernel_rfl
theorem bDd{a:List Rat}{k:Nat}(j:WD k a)(g:a.length<=400)(D:k<=200000):VX (m+12) 210 [tP a]=some (tR (iW a),false):=by
 have f1:=aBN (m:=m) (a:=a) (j.ps (by omega) (by omega))
 refine bX rfl func210 bCi rfl ?_
 simp only[f210,N1,bC,bF,bH,bG,bE,zB,zG]
 simp (disch:=first|rfl|omega)only[S1,aN,aC,aE,aM,aJ,zB,aU,vJ 134 rfl,f1 _]
 have z0:=aBw (m:=m+6) (z:=((0:Nat):Int)) (by decide) (by decide)
 have la:=kX a
 have ta:=fN a
 unfold iW
 refine cM (fun e=> ?_) (fun e=> ?_)
 ·simp (disch:=first|rfl|omega)only[S1,aC,aE,aM,aJ,zB,reduceCtorEq,zD,zG,zH,aU,vJ 43 rfl,z0 _]
  rw[if_pos (ae e)]
  rfl
 ·rw [if_neg (af e)]
  have I:2<=(bL a).length:=by have:=af e;omega
  simp (disch:=first|rfl|omega)only[S1,aN,aC,aE,aM,aJ,zB,zD,zG,aU,vJ 43 rfl,z0 _]
  have wp:=j.monic
  have pp:PS 18500 (bL a):=wp.ps (by omega) (by omega)
  have fm:∀i,FR 18500 (lZ (bL a) i):=fun i=>qY (aIv wp i) (by omega)
  refine .up (fun i e s=>2<=s.nxt/\s.ob 0=⟨0,[.b false,.nil,.b false,.nil]⟩/\(∃q,q=lZ (bL a) i/\s.ob 1=⟨0,cR q⟩)/\e 2=some (.po 0 0)/\e 3=some (.po 1 0)/\e 17=some (tP ((bL a).take ((bL a).length-1)))/\e 18=some (.int .i64 (((bL a).length-1:Nat):Nat))/\e 19=some (.int .i64 (i:Nat))) ((bL a).length-1) ?_ (dB (by omega)) ?_
  ·refine⟨bJE _,rfl,⟨0,rfl,rfl⟩, ?_, ?_, ?_, ?_, ?_⟩<;>simp (disch:=first|rfl|omega)only[S1,zB,bKW,bJO,bK7 (Nat.sub_le (bL a).length 1)]
  ·rintro i e s J ⟨sn,o,⟨q,hq,s1⟩,p,r,c,d,f⟩
   have fq:FR 18500 q:=by rw[hq];exact fm i
   have t:(0==s.nxt)=false:=by rw[ao];omega
   have u:(1==s.nxt)=false:=by rw[ao];omega
   have v:(s.nxt==0)=false:=by rw[ao];omega
   have w:(s.nxt==1)=false:=by rw[ao];omega
   by_cases hc:i<(bL a).length-1
   ·have h1:decide (i<(bL a).length-1)=true:=ak hc
    have B:i<((bL a).take ((bL a).length-1)).length:=by rw[bJO];omega
    have G:co ((bL a).take ((bL a).length-1)) i=co (bL a) i:=by
     unfold co;rw[bK0,bK0,List.getElem?_take_of_lt hc]
    have vi:=lF B
    have vl:∀s,kP PG 78 s (.pi (bP.row ((bL a).take ((bL a).length-1))) (i*4))=some (tR (co (bL a) i)):=fun s=>by rw[←G];exact kY B
    have fc:FR 18500 (co (bL a) i):=pp.co (by omega)
    have c1:=aFX (m:=m+9) (fc.mono (k:=9000000) (by decide))
    have c2:=aK9 (m:=m+7) (fc.mono (k:=9000000) (by decide))
    have fa:FR 18500 (mW (co (bL a) i)):=⟨by rw[(aBu _).2];exact fc.1,by rw[(aBu _).1];exact fc.2⟩
    have c3:=aSj (m:=m+6) (a:=mW (co (bL a) i)) (b:=q) (fa.mono (by decide)) (fq.mono (by decide))
    have h:lZ (bL a) (i+1)=if 0<gB (mW (co (bL a) i)-q)then mW (co (bL a) i)else q:=by rw[lZ,←hq]
    unfold mW at c3 h
    simp (disch:=first|rfl|omega)only[S1,aC,aE,aM,aJ,zB,reduceCtorEq,zD,zH,aU,cR,c,d,f,h1,vi,vl,vJ 139 rfl,c1 _,sB]
    refine cM (fun H=> ?_) (fun H=> ?_)
    ·rw[if_pos (ae H)]at c3 h
     simp (disch:=first|rfl|omega)only[S1,aC,aE,aM,aJ,zB,reduceCtorEq,zD,zH,aU,cR,r,s1,u,vJ 211 rfl,c2 _,vJ 55 rfl,c3 _,aG3]
     refine cM (fun x=> ?_) (fun x=> ?_)
     ·rw[if_pos (ae x)]at h
      simp (disch:=first|rfl|omega)only[S1,aC,aE,aM,aJ,zB,reduceCtorEq,zD,zH,aU,cR,p,r,c,d,f,o,s1,t,u]
      exact⟨hc,by omega,_,h.symm,rfl⟩
     ·rw[if_neg (af x)]at h
      simp (disch:=first|rfl|omega)only[S1,aC,aE,aM,aJ,zB,zH,cR,p,r,c,d,f,o,s1,t,u]
      exact⟨hc,by omega,_,h.symm,rfl⟩
    ·rw[if_neg (af H)]at c3 h
     simp (disch:=first|rfl|omega)only[S1,aC,aE,aM,aJ,zB,reduceCtorEq,zD,zH,aU,cR,r,s1,u,vJ 55 rfl,c3 _,aG3]
     refine cM (fun x=> ?_) (fun x=> ?_)
     ·rw[if_pos (ae x)]at h
      simp (disch:=first|rfl|omega)only[S1,aC,aE,aM,aJ,zB,reduceCtorEq,zD,zH,aU,cR,p,r,c,d,f,o,s1,t,u]
      exact⟨hc,by omega,_,h.symm,rfl⟩
     ·rw[if_neg (af x)]at h
      simp (disch:=first|rfl|omega)only[S1,aC,aE,aM,aJ,zB,zH,cR,p,r,c,d,f,o,s1,t,u]
      exact⟨hc,by omega,_,h.symm,rfl⟩
   ·have h1:decide (i<(bL a).length-1)=false:=ai (by omega)
    obtain rfl:i=(bL a).length-1:=by omega
    have c1:=aBw (m:=m+6) (z:=((1:Nat):Int)) (by decide) (by decide)
    have c2:=aTx (m:=m+2) (a:=q) (b:=((((1:Nat):Int)):Rat)) (fq.mono (by decide)) ⟨aX.one (by decide),aX.one (by decide)⟩
    simp (disch:=first|rfl|omega)only[S1,aC,aE,aM,aJ,zB,reduceCtorEq,zD,zH,aU,cR,p,r,d,f,o,s1,h1,c1 _,c2 _]
    rw[hq]
    rfl
theorem bFQ{a:List Rat}{k:Nat}(j:WD k a)(g:a.length<=400)(D:k<=200000):CC (VX (m+12)) 210 [tP a] (tR (iW a)):= .of (iM a) (jD a) (bDd j g D)
end
end Ev
end Go.Proofs.YtmjoaipkaddkbaaGreatDoor
