/- Part of a proof. -/
import Derived.Test.YtmjoaipkaddkbaaGreatDoorP03
noncomputable section
open Nat renaming reduceBEq → zB, reduceEqDiff → zC, reduceAdd → zD, reduceMul → zE, reduceSub → zF, reduceLT → zG, reduceLeDiff → zH
open Bool renaming and_false→bMl,and_self→bKr,and_true→bKD,false_and→bLH,true_and→bKI
open Int renaming le_of_lt→bNg,lt_trichotomy→bMs,natAbs_mul→bKJ,natAbs_neg→bLJ,not_lt→bLV,sign_eq_neg_one_of_neg→bL5,sign_eq_one_of_pos→bL3
open List renaming all_cons→bKK,all_eq_true→bKq,all_nil→bLk,drop_zero→bJV,eq_nil_of_length_eq_zero→bKB,length_append→bJW,length_cons→bJN,length_map→bKo,length_pos_iff→bKz,length_set→bKT,length_take→bJO,map_append→bL6,map_cons→bKc,mem_cons→bJZ,mem_map→bKP,mem_singleton→bKF,replicate→bJL,replicate_succ→bL7,take_length→bKp,take_of_length_le→bJU,take_succ_eq_append_getElem→bLd,take_take→bKC,take_zero→bLq
open Nat renaming add_assoc→bLO,add_comm→bL1,add_mul→bKw,add_mul_div_left→bMG,add_sub_cancel→bKs,add_zero→bKR,div_add_mod→bL2,div_eq_of_lt→bLl,div_le_self→bLb,div_lt_of_lt_mul→bLy,div_mul_le_self→bM8,le_div_iff_mul_le→bLS,le_mul_of_pos_right→bM9,le_of_eq→bLv,le_of_lt→bKb,le_refl→bJE,le_trans→bJH,lt_mul_div_succ→bNf,lt_of_le_of_lt→bK9,lt_of_lt_of_le→bJK,lt_or_ge→bJS,lt_succ_self→bJT,lt_trans→bKV,min_eq_left→bK7,min_self→bNe,mod_eq_of_lt→bKg,mod_lt→bK6,mul_add→bK4,mul_assoc→bK1,mul_comm→bJR,mul_le_mul→bLh,mul_le_mul_left→bK5,mul_le_mul_right→bK8,mul_left_comm→bMI,mul_one→bKk,mul_pos→bKG,mul_succ→bNn,mul_zero→bLz,one_mul→bLI,pow_add→bL4,pow_le_pow_right→bK2,pow_mul→bMn,pow_pos→bKt,pow_succ→bJX,pow_zero→bLe,sub_self→bKS,two_pow_pos→bMt,zero_add→bKi,zero_le→bJJ,zero_lt_one→bLU
open Go renaming IntKind→bR6
set_option maxRecDepth 10000000
open Go
open Go.Proofs.Tryz
namespace Go.Proofs.YtmjoaipkaddkbaaGreatDoor
namespace Ev
section
variable {m:Nat}
theorem aXR:bO PG 69 f69 [2] []=true:=by kernel_rfl
theorem bC8{a:List Rat}(h:PS 74900 a):VX (m+13) 69 [tP a]=some (tP (bL a),false):=by
 have f1:=aG8 (m:=m+6) (l:=a) ⟨h.1,fun q hq=>(h.2 q hq).mono (by decide)⟩
 have w:=fN a
 have t:PS 74900 (tr a):=⟨bJH (fN a) h.1,fun q hq=>h.2 q (yJ hq)⟩
 have y:=t.1
 refine jR rfl func69 aXR rfl ?_
 simp only[f69,N1,bC,bF,bH,bG,bE,zB,zG]
 simp (disch:=first|rfl|omega)only[S1,aN,aC,aE,aM,aJ,zB,aU,vJ 73 rfl,f1 _]
 refine cM (fun e=> ?_) (fun e=> ?_)
 ·have e0:=bKB (show(tr a).length=0 by have:=ae e;omega)
  simp (disch:=first|rfl|omega)only[S1,zB,reduceCtorEq,aU]
  rw[show bL a=tr a by unfold bL eH;rw[e0];rfl]
 ·have e0:tr a≠ []:=fun h=>af e (by rw[h];rfl)
  have E:0<(tr a).length:=bKz.2 e0
  have K:=aAd (m:=m+7) (z:=((1:Nat):Int)) (by decide) (by decide)
  have f2:=aQg (m:=m) (a:=((((1:Nat):Int)):Rat)) (b:=gV a) ⟨aX.one (by decide),aX.one (by decide)⟩ (t.co (by omega)) (tY e0)
  have f2:CC (VX (m+12)) 152 [tR ((((1:Nat):Int)):Rat),tR (co (tr a) ((tr a).length-1))] (tR (1/gV a)):=f2
  have fi:FR 74900 (1/gV a):=by
   rw[Rat.div_def,Rat.one_mul]
   exact(show FR 74900 (gV a)from t.co (by omega)).inv (tY e0)
  have f3:=aFm (m:=m+1) t fi
  simp (disch:=first|rfl|omega)only[S1,aN,aC,aE,aM,aJ,zB,reduceCtorEq,aU,e,lF,kY,K _,f2 _,f3 _]
  rfl
theorem aBF{a:List Rat}(h:PS 74900 a):CC (VX (m+13)) 69 [tP a] (tP (bL a)):= .of (iM a) (jD a) (bC8 h)
theorem bDM:bO PG 27 f27 [2] []=true:=by kernel_rfl
theorem bGX{l:List Rat}(h:PS 74900 l):VX (m+11) 27 [tP l]=some (tP (dV l),false):=by
 refine jR rfl func27 bDM rfl ?_
 simp only[f27,N1,bC,bF,bH,bG,bE,zB,zG]
 simp (disch:=first|rfl|omega)only[S1,aC,aE,aM,aJ,zB]
 have y:=h.1
 refine .up (fun k e s=>∃v,e 0=some (tP l)/\e 3=some v/\e 4=some (.int .i64 ((k+1:Nat):Int))/\fM bP dZ s v (mk k fun j=>co l (j+1)*(((j+1:Nat):Int):Rat))) (l.length-1) ?_ (dB (by omega)) ?_
 ·refine⟨.nil, ?_, ?_, ?_,.nil _⟩<;>simp (disch:=first|rfl|omega)only[S1,zB]
 ·rintro k e s L ⟨v,e0,F,G,c⟩
  have fi:FR 74900 ((((k+1:Nat):Int)):Rat):=⟨aX.mono (j:=1) (show k+1<4294967296^1 by omega) (by decide),aX.one (by decide)⟩
  by_cases hc:k<l.length-1
  ·have h1:decide (k+1<l.length)=true:=ak (by omega)
   have c2:=aAd (m:=m+5) (z:=((k+1:Nat):Int)) (by omega) (by omega)
   have c3:=aGy (m:=m) (a:=co l (k+1)) (h.co (by omega)) fi
   obtain⟨v',s',ea,A⟩:=c.stepR (co l (k+1)*(((k+1:Nat):Int):Rat)) (by rw[iX];omega)
   simp (disch:=first|rfl|omega)only[S1,aK,aN,aC,aE,aM,aJ,aD,zB,zD,zE,zH,aU,e0,F,G,h1,lF,kY,c2 _,c3 _,ea]
   exact⟨hc,v',rfl,by rw[aBS];exact A⟩
  ·have h1:decide (k+1<l.length)=false:=ai (by omega)
   obtain rfl:k=l.length-1:=by omega
   have E:PS 9000000 (mk (l.length-1) fun j=>co l (j+1)*(((j+1:Nat):Int):Rat)):=⟨by rw[iX];omega,fun q hq=>by
    obtain⟨j,Q,rfl⟩:=tZ hq
    exact(h.co (by omega)).mul (k:=9000000) (j:=74900) ⟨aX.mono (j:=1) (show j+1<4294967296^1 by omega) (by decide),aX.one (by decide)⟩ (by decide)⟩
   obtain⟨s1,R,M,N, -, -⟩:=c.bld.call (f:=73) Can.nil (by decide) (by rw[iX];show _*9<=_;omega) (aDP (m:=m+4) E)
   simp (disch:=first|rfl|omega)only[S1,aN,zB,reduceCtorEq,aU,e0,F,G,h1,vJ 73 rfl,N]
   rfl
theorem aKz{l:List Rat}(h:PS 74900 l):CC (VX (m+11)) 27 [tP l] (tP (dV l)):= .of (iM l) (jD l) (bGX h)
theorem bCV:bO PG 26 f26 [4] []=true:=by kernel_rfl
theorem bHU{a b:List Rat}{k:Nat}(u:WD k a)(c:WD k b)(i:a.length<=400)(o:b.length<=400)(r:(tr b).length<(tr a).length)(B:(k+1)*3^((tr a).length-1)<=592000):VX (m+15) 26 [tP a,tP b]=some (tP (gF a b),false):=by
 have L:k<=592000:=bJH (bJH (Nat.le_succ k) (bM9 _ (bKt (by decide)))) B
 have f1:=aBF (m:=m+1) (a:=a) (u.ps (by omega) (by omega))
 have f2:=aBF (m:=m+1) (a:=b) (c.ps (by omega) (by omega))
 have la:=kX a
 have lb:=kX b
 have w:=fN a
 refine jR rfl func26 bCV rfl ?_
 simp only[f26,N1,bC,bF,bH,bG,bE,zB,zG]
 simp (disch:=first|rfl|omega)only[S1,aC,aE,aM,aJ,zB,zD,vJ 69 rfl,f1 _,f2 _]
 refine .loop (fun n e s=>∃p q f,s=dZ/\e 0=some (tP p)/\e 1=some (tP q)/\qE f p q=gF a b/\NF p/\NF q/\q.length<f/\q.length<p.length/\p.length<=(tr a).length/\WD ((k+1)*3^((tr a).length-p.length)-1) p/\WD ((k+1)*3^((tr a).length-p.length)-1) q/\n=q.length) (bL b).length ?_ (dB (by have:=fN b;omega)) ?_
 ·refine⟨bL a,bL b,(bL b).length+1,rfl, ?_, ?_,rfl,.pmonic a,.pmonic b,bJT _,by omega,by omega, ?_, ?_,rfl⟩
  ·simp (disch:=first|rfl|omega)only[S1,zB]
  ·simp (disch:=first|rfl|omega)only[S1,zB]
  ·rw[la,bKS,bLe,bKk];exact u.monic
  ·rw[la,bKS,bLe,bKk];exact c.monic
 ·rintro n e s ⟨p,q,f,rfl,e0,H,I,np,nq,hf,y,O,wp,wq,rfl⟩
  obtain⟨f,rfl⟩:∃g,f=g+1:=⟨f-1,by omega⟩
  by_cases hc:0<q.length
  ·have h1:decide (0<q.length)=true:=ak hc
   have d:q≠ []:=bKz.1 hc
   obtain⟨J,P,S⟩:=aBR wp wq np nq d y O (Nat.succ_le_succ (bJJ k))
   have wk:∀x,1<=x->x<=(tr a).length->(k+1)*3^((tr a).length-x)-1<=592000:=fun x h1 h2=>by
    have:=bK5 (k+1) (bK2 (show 0<3 by decide) (show(tr a).length-x<=(tr a).length-1 by omega))
    omega
   obtain⟨C,D⟩:=aBv (a:=p) (b:=q) (by rw[nq.eq];exact d)
   rw[nq.eq]at C
   have c1:=aId (m:=m) (a:=p) (b:=q) wp wq (by omega) (by omega) (by rw[nq.eq];exact d) (by rw[np.eq,nq.eq];omega) (wk _ (by omega) (by omega))
   have c2:=aBF (m:=m+1) (a:=fH p q) (J.ps (by have:=wk q.length (by omega) (by omega);omega) (by omega))
   simp (disch:=first|rfl|omega)only[S1,aN,aC,aE,aM,aJ,zB,aU,e0,H,h1,vJ 70 rfl,c1 _,vJ 69 rfl,c2 _]
   refine⟨(bL (fH p q)).length, ?_,q,bL (fH p q),f,rfl,rfl, ?_,nq,.pmonic _, ?_, ?_,by omega,P,J.monic,rfl⟩
   ·rw[kX,D.eq];exact C
   ·rw[←I,qE,if_neg d]
   ·rw[kX,D.eq];omega
   ·rw[kX,D.eq];exact C
  ·have h1:decide (0<q.length)=false:=ai hc
   have d:q=[]:=bKB (by omega)
   simp (disch:=first|rfl|omega)only[S1,aN,aC,aE,aM,aJ,zB,reduceCtorEq,aU,e0,H,h1]
   rw[←I,qE,if_pos d]
theorem aTP{a b:List Rat}{k:Nat}(u:WD k a)(c:WD k b)(i:a.length<=400)(o:b.length<=400)(r:(tr b).length<(tr a).length)(B:(k+1)*3^((tr a).length-1)<=592000):CC (VX (m+15)) 26 [tP a,tP b] (tP (gF a b)):= .of (vS a b) (vY a b) (bHU u c i o r B)
end
end Ev
def eO(x:Rat):List Rat->Rat
 | []=>0
 |a::l=>eO x l*x+a
theorem aXu{l:List Rat}{n:Nat}(x:Rat)(h:n<l.length):eO x (l.drop n)=eO x (l.drop (n+1))*x+co l n:=by
 rw[List.drop_eq_getElem_cons h,eO,wK h]
theorem aN2{k m D:Nat}{x:Rat}(o:x.den<2^m)(hn:x.num.natAbs<2^m):∀(l:List Rat),(∀q∈l,∃n:Int,q*(D:Rat)=(n:Rat)/\n.natAbs<2^k)->∃n:Int,eO x l*((D*x.den^l.length:Nat):Rat)=(n:Rat)/\n.natAbs<2^(k+(m+1)*l.length)
 | [],_=>⟨0,by simp [eO],by simp;exact bMt _⟩
 | a::l,h=>by
  obtain⟨n,d,g⟩:=aN2 o hn l fun q hq=>h q (.tail _ hq)
  obtain⟨A,a1,a2⟩:=h a (.head _)
  refine⟨n*x.num+A*((x.den^(l.length+1):Nat):Int), ?_, ?_⟩
  ·have hx:=aBJ x
   simp only[eO,bJN,Rat.intCast_add,Rat.intCast_mul,←d,←a1,←hx,Rat.natCast_mul,Rat.intCast_natCast,bJX]
   grind
  ·have C:2^(k+(m+1)*(l.length+1))=2^(k+(m+1)*l.length)*2^m*2:=by
    rw[←bL4,←bJX];congr 1;rw[bNn];omega
   have M:(n*x.num).natAbs<2^(k+(m+1)*l.length)*2^m:=by rw[bKJ];exact Nat.mul_lt_mul'' g hn
   have t:x.den^(l.length+1)<=2^(m*(l.length+1)):=by rw[bMn];exact Nat.pow_le_pow_left (bKb o) _
   have O:(A*((x.den^(l.length+1):Nat):Int)).natAbs<=2^(k+(m+1)*l.length)*2^m:=by
    rw[bKJ,Int.natAbs_natCast]
    refine bJH (bLh (bKb a2) t) ?_
    rw[←bL4,←bL4]
    refine bK2 (by decide) ?_
    rw[bNn,Nat.succ_mul];omega
   rw[bJN,C]
   omega
theorem aLM{k m:Nat}{x:Rat}{l:List Rat}(h:WD k l)(o:x.den<2^m)(hn:x.num.natAbs<2^m):(eO x l).den<2^(k+(m+1)*l.length)/\(eO x l).num.natAbs<2^(k+(m+1)*l.length):=by
 obtain⟨D,d1,d2,d3⟩:=h
 obtain⟨n,d,g⟩:=aN2 (D:=D) o hn l d3
 obtain⟨g1,g2⟩:=aET (bKG d1 (bKt x.den_pos)) d
 refine⟨bK9 g1 ?_,bK9 g2 g⟩
 have t:x.den^l.length<=2^((m+1)*l.length):=by rw[bMn];exact Nat.pow_le_pow_left (by have:=bJX 2 m;omega) _
 rw[bL4]
 exact Nat.mul_lt_mul_of_lt_of_le d2 t (bKt (by decide))
theorem WD.drop{k:Nat}{l:List Rat}(h:WD k l)(n:Nat):WD k (l.drop n):=h.sub fun _ hq=>List.mem_of_mem_drop hq
def mW(q:Rat):Rat:=if gB q<0 then-q else q
def lZ(l:List Rat):Nat->Rat
 |0=>0
 |i+1=>if 0<gB (mW (co l i)-lZ l i)then mW (co l i)else lZ l i
def iW(a:List Rat):Rat:=if (bL a).length<2 then 0 else lZ (bL a) ((bL a).length-1)+1
theorem aBu(q:Rat):(mW q).den=q.den/\(mW q).num.natAbs=q.num.natAbs:=by
 unfold mW
 split
 ·exact⟨rfl,by rw[show(-q).num= -q.num from rfl,bLJ]⟩
 ·exact⟨rfl,rfl⟩
theorem aT8(l:List Rat):∀i,lZ l i=0\/∃j,j<i/\lZ l i=mW (co l j)
 |0=> .inl rfl
 | i+1=>by
  unfold lZ
  split
  ·exact .inr ⟨i,bJT _,rfl⟩
  ·rcases aT8 l i with h|⟨j,h1,h2⟩
   ·exact .inl h
   ·exact .inr ⟨j,by omega,h2⟩
theorem bBo{k:Nat}{l:List Rat}(h:WD k l)(j:Nat):(co l j).den<2^(k+1)/\(co l j).num.natAbs<2^(k+1):=by
 have w:=bJX 2 k
 have h0:0<2^k:=bMt _
 rcases bJS j l.length with hj|hj
 ·have:=h.parts (aGs hj);omega
 ·rw[iF hj]
  exact⟨by show 1<_;omega,by show 0<_;omega⟩
theorem aIv{k:Nat}{l:List Rat}(h:WD k l)(i:Nat):(lZ l i).den<2^(k+1)/\(lZ l i).num.natAbs<2^(k+1):=by
 rcases aT8 l i with e|⟨j,_,e⟩
 ·rw[e]
  have h0:0<2^k:=bMt _
  have w:=bJX 2 k
  exact⟨by show 1<_;omega,by show 0<_;omega⟩
 ·rw[e,(aBu _).1,(aBu _).2];exact bBo h j
theorem aEP{k:Nat}{a:List Rat}(h:WD k a):(iW a).den<2^(k+2)/\(iW a).num.natAbs<2^(k+2):=by
 have w:=bJX 2 k
 have E:2^(k+2)=2^(k+1)*2:=bJX 2 (k+1)
 have h0:0<2^k:=bMt _
 unfold iW
 split
 ·exact⟨by show 1<_;omega,by show 0<_;omega⟩
 ·obtain⟨g1,g2⟩:=aIv h.monic ((bL a).length-1)
  obtain⟨s1,y⟩:=aMQ (lZ (bL a) ((bL a).length-1)) 1
  have d:(1:Rat).den=1:=rfl
  have g:(1:Rat).num.natAbs=1:=rfl
  rw[d]at s1 y
  rw[g]at y
  constructor<;>omega
theorem aNN{k:Nat}{q:Rat}(h:q.den<2^k/\q.num.natAbs<2^k):(-q).den<2^k/\(-q).num.natAbs<2^k:=⟨h.1,by rw[show(-q).num= -q.num from rfl,bLJ];exact h.2⟩
def jI(x:Rat):List (List Rat)->Nat×Int->Nat×Int
 | [],s=>s
 |p::c,s=>jI x c (if gB (eO x p)=0 then s else(if gB (eO x p)= -s.2 then s.1+1 else s.1,gB (eO x p)))
def gO(c:List (List Rat))(x:Rat):Nat:=(jI x c (0,0)).1
def yU(a:List Rat)(low high:Rat):Int:=if 0<=gB (low-high)then 0 else(gO (iV a) low:Int)-gO (iV a) high
def aAK(a:List Rat):Int:=yU a (-iW a) (iW a)
theorem WD.neg1{k:Nat}{l:List Rat}(h:WD k l):WD k (eH l ((-1:Int):Rat)):=by
 obtain⟨D,d1,d2,d3⟩:=h
 refine⟨D,d1,d2,fun q hq=> ?_⟩
 obtain⟨j,hj,rfl⟩:=tZ (yJ hq)
 obtain⟨n,d,g⟩:=d3 _ (aGs hj)
 refine⟨-n, ?_,by rw[bLJ];exact g⟩
 have h2:((-n:Int):Rat)= -(n:Rat):=Rat.intCast_neg n
 rw[h2,←d]
 have:((-1:Int):Rat)= -1:=rfl
 rw[this];grind
theorem aHQ(l:List Rat)(c:Rat):(eH l c).length<=l.length:=bJH (fN _) (by rw[iX];exact bJE _)
theorem aTB{K N:Nat}(z:1<=K):∀(f:Nat) (p q:List Rat),WD (K*3^(N-p.length)-1) p->WD (K*3^(N-p.length)-1) q->NF p->NF q->q.length<p.length->p.length<=N->(∀c∈qJ f p q,WD (K*3^(N-1)) c/\c.length<=N)/\(qJ f p q).length<=q.length
 |0,_,q,_,_,_,_,_,_=>⟨fun _ h=>(by cases h),bJJ _⟩
 | f+1,p,q,wp,wq,np,nq,F,G=>by
  unfold qJ
  split
  ·exact⟨fun _ h=>(by cases h),bJJ _⟩
  ·next h0=>
   have H:0<q.length:=bKz.2 h0
   obtain⟨r,u, -⟩:=aBR wp wq np nq h0 F G z
   obtain⟨I,P⟩:=aBv (a:=p) (b:=q) (by rw[nq.eq];exact h0)
   rw[nq.eq]at I
   have ls:=aHQ (fH p q) ((-1:Int):Rat)
   obtain⟨v,i2⟩:=aTB z f q (eH (fH p q) ((-1:Int):Rat)) u r.neg1 nq (.tr _) (by omega) (by omega)
   refine⟨fun c hc=> ?_,by simp only[bJN];omega⟩
   rcases bJZ.1 hc with rfl|hc
   ·refine⟨wq.mono ?_,by omega⟩
    have:=bK5 K (bK2 (show 0<3 by decide) (show N-p.length<=N-1 by omega))
    omega
   ·exact v c hc
theorem aDL(x:Rat):∀(c:List (List Rat)) (s:Nat×Int),(jI x c s).1<=s.1+c.length
 | [],s=>bJE _
 | p::c,s=>by
  unfold jI
  refine bJH (aDL x c _) ?_
  simp only[bJN]
  split
  ·omega
  ·simp only
   split<;>omega
structure gN(k:Nat)(a:List Rat):Prop where
 wd:WD k a
 len:a.length<=400
 two:2<=(tr a).length
 gcd:gF a (dV a)=[1]
 h1:(k+11)*3^((tr a).length-1)<=584000
 h2:(k+3)*(tr a).length<=100000
theorem gN.t0{k:Nat}{a:List Rat}(h:gN k a):tr a≠ []:=fun e=>by have:=h.two;rw[e]at this;exact absurd this (by decide)
theorem gN.sqf{k:Nat}{a:List Rat}(h:gN k a):sP a=bL a:=aJ9 h.t0 h.gcd
theorem gN.chain{k:Nat}{a:List Rat}(h:gN k a):iV a=bL a::qJ ((dV (bL a)).length+1) (bL a) (dV (bL a)):=by
 have:=h.two
 rw[iV,if_neg (by omega),h.sqf]
theorem gN.der{k:Nat}{a:List Rat}(h:gN k a):WD (k+10) (bL a)/\WD (k+10) (dV (bL a))/\(dV (bL a)).length<(bL a).length/\(bL a).length=(tr a).length:=by
 have:=h.two
 have J:=kX a
 have l2:=aBG (bL a)
 have Q:=fN a
 have R:=h.len
 exact⟨h.wd.monic.mono (by omega),h.wd.monic.der (by omega),by omega,J⟩
theorem gN.all{k:Nat}{a:List Rat}(h:gN k a):(∀c∈iV a,WD 584000 c/\c.length<=(tr a).length)/\(iV a).length<=(tr a).length:=by
 obtain⟨r,u,L,B⟩:=h.der
 have hc:=aTB (K:=k+11) (N:=(tr a).length) (by omega) ((dV (bL a)).length+1) (bL a) (dV (bL a)) (by rw[B,bKS,bLe,bKk];exact r) (by rw[B,bKS,bLe,bKk];exact u) (.pmonic a) (.pder _) L (by omega)
 have S:k+11<=584000:=bJH (bM9 _ (bKt (by decide))) h.h1
 rw[h.chain]
 refine⟨fun c hc'=> ?_,by rw[bJN];omega⟩
 rcases bJZ.1 hc' with rfl|hc'
 ·exact⟨r.mono (by omega),by omega⟩
 ·obtain⟨v,i2⟩:=hc.1 c hc'
  exact⟨v.mono h.h1,i2⟩
namespace Ev
section
variable {m:Nat}
theorem qY{K k:Nat}{q:Rat}(h:q.den<2^K/\q.num.natAbs<2^K)(p:K<=32*k):FR k q:=by
 have e:2^K<=4294967296^k:=by
  rw[show(4294967296:Nat)=2^32 from rfl,←bMn]
  exact bK2 (by decide) p
 exact⟨bJK h.2 e,bJK h.1 e⟩
theorem WD.one1:WD 1 [1]:=⟨1,by decide,by decide,fun q hq=>⟨1,by rw[bKF.1 hq];exact(Rat.one_mul _).trans rfl,by decide⟩⟩
theorem bD1:bO PG 232 f232 [2] []=true:=by kernel_rfl
theorem bH9{a:List Rat}{k:Nat}(d:WD k a)(c:a.length<=400)(h2:2<=(tr a).length)(u:gF a (dV a)=[1])(p:(k+11)*3^((tr a).length-1)<=592000):VX (m+16) 232 [tP a]=some (tP (sP a),false):=by
 have w:k+11<=592000:=bJH (bM9 _ (bKt (by decide))) p
 have G:(k+11)*3<=592000:=bJH (bK5 _ (show 3<=3^((tr a).length-1)from bK2 (n:=3) (show 0<3 by decide) (show 1<=(tr a).length-1 by omega))) p
 have la:=kX a
 have ta:=fN a
 have t0:tr a≠ []:=fun e=>by rw[e]at h2;exact absurd h2 (by decide)
 have wm:=d.monic
 have f1:=aBF (m:=m+2) (a:=a) (d.ps (by omega) (by omega))
 have f2:=aKz (m:=m+4) (l:=bL a) (wm.ps (by omega) (by omega))
 have ld:=aBG (bL a)
 have f3:=aTP (m:=m) (a:=bL a) (b:=dV (bL a)) (wm.mono (show k<=k+10 by omega)) (wm.der (by omega)) (by omega) (by omega) (by rw[(NF.pmonic a).eq,(NF.pder _).eq];omega) (by rw[(NF.pmonic a).eq,la];exact p)
 rw[aIa a t0,u]at f3
 have t1:tr [(1:Rat)]=[1]:=NF.eq fun _=>by show(1:Rat)≠0;decide
 have f4:=aId (m:=m+1) (a:=bL a) (b:=[1]) wm WD.one1 (by omega) (by decide) (by rw[t1];simp) (by rw[(NF.pmonic a).eq,t1,la];show k+((tr a).length-1)*2<=592000;omega) (by decide)
 rw[aIP,(NF.pmonic a).eq]at f4
 have f5:=aBF (m:=m+2) (a:=bL a) (wm.ps (by omega) (by omega))
 rw[aEQ]at f5
 have y:decide ((bL a).length=0)=false:=ai (by omega)
 have t:decide (((bL a).length:Int)=0)=false:=ai (by omega)
 rw[aJ9 t0 u]
 refine jR rfl func232 bD1 rfl ?_
 simp only[f232,N1,bC,bF,bH,bG,bE,zB,zG]
 simp (disch:=first|rfl|omega)only[S1,aN,aC,aE,aM,aJ,zB,reduceCtorEq,aU,t,vJ 69 rfl,f1 _,f5 _,vJ 27 rfl,f2 _,vJ 26 rfl,f3 _,vJ 70 rfl,f4 _]
theorem bHj{a:List Rat}{k:Nat}(d:WD k a)(c:a.length<=400)(h2:2<=(tr a).length)(u:gF a (dV a)=[1])(p:(k+11)*3^((tr a).length-1)<=592000):CC (VX (m+16)) 232 [tP a] (tP (sP a)):= .of (iM a) (jD a) (bH9 d c h2 u p)
theorem bC0:bO PG 233 f233 [4] []=true:=by kernel_rfl
theorem bEC{l:List Rat}{x:Rat}(h:PS 18500 l)(hx:FR 22000 x)(A:∀n,FR 22000 (eO x (l.drop n))):VX (m+11) 233 [tP l,tR x]=some (tR (eO x l),false):=by
 refine bX rfl func233 bC0 rfl ?_
 simp only[f233,N1,bC,bF,bH,bG,bE,zB,zG]
 have H:=h.1
 have z0:=aFQ (m:=m+4)
 simp (disch:=first|rfl|omega)only[S1,aN,aC,aE,aM,aJ,zB,zD,zG,aU,vJ 225 rfl,z0 _]
 refine .loop (fun n e s=>n<=l.length/\s.nxt=3/\s.ob 0=⟨0,[.b (decide (x.num<0)),tW (aO x.num.natAbs),.b (decide ((x.den:Int)<0)),tW (aO (x.den:Int).natAbs)]⟩/\s.ob 1=⟨0,[.b false,.nil,.b false,.nil]⟩/\(∃q,q=eO x (l.drop n)/\s.ob 2=⟨0,[.b (decide (q.num<0)),tW (aO q.num.natAbs),.b (decide ((q.den:Int)<0)),tW (aO (q.den:Int).natAbs)]⟩)/\e 0=some (tP l)/\e 3=some (.po 0 0)/\e 4=some (.po 1 0)/\e 5=some (.po 2 0)/\e 6=some (.int .i64 (iz n))) l.length ?_ (dB (by omega)) ?_
 ·refine⟨bJE _,rfl,rfl,rfl,⟨0,by rw[List.drop_length];rfl,rfl⟩, ?_, ?_, ?_, ?_, ?_⟩<;>simp (disch:=first|rfl|omega)only[S1,zB]
 ·rintro n e s ⟨hn,sn,f,s1,⟨q,hq,B⟩,e0,g,o,C,D⟩
  have fq:FR 22000 q:=by rw[hq];exact A n
  simp (disch:=first|rfl|omega)only[S1,aC,aE,aM,aJ,zB,D]
  refine cM (fun hc=> ?_) (fun hc=> ?_)
  ·obtain⟨n,rfl⟩:∃j,n=j+1:=⟨n-1,by have:=ae hc;omega⟩
   have c1:=aGy (m:=m) (a:=q) (b:=x) (fq.mono (by decide)) (hx.mono (by decide))
   have c2:=aKD (m:=m) (a:=q*x) (b:=co l n) (fq.mul hx (by decide)) ((h.co (by omega)).mono (by decide))
   simp (disch:=first|rfl|omega)only[S1,aC,aE,aM,aJ,zB,reduceCtorEq,zD,zG,zH,aU,e0,g,o,C,D,sn,f,s1,B,bKs,lF,kY,c1 _,c2 _]
   exact⟨n,bJT _,by omega,⟨_,by rw[hq];exact(aXu x (by omega)).symm,rfl⟩,rfl⟩
  ·have E:n=0:=by have:=af hc;omega
   subst E
   simp (disch:=first|rfl|omega)only[S1,zB,reduceCtorEq,zD,zG,zH,aU,o,C,sn,s1,B]
   rw[hq,bJV]
theorem bEk{l:List Rat}{x:Rat}(h:PS 18500 l)(hx:FR 22000 x)(A:∀n,FR 22000 (eO x (l.drop n))):CC (VX (m+11)) 233 [tP l,tR x] (tR (eO x l)):= .of (aKj l x) (aKA l x) (bEC h hx A)
theorem bCZ:bO PG 229 f229 [2] []=true:=by kernel_rfl
theorem bH4{q:Rat}(h:FR 9000000 q):VX (m+6) 229 [tR q]=some (tR (mW q),false):=by
 have c1:=aJU (m:=m) h
 have c2:=aTz (m:=m+1) h
 refine bX rfl func229 bCZ rfl ?_
 simp only[f229,N1,bC,bF,bH,bG,bE,zB,zG]
 simp (disch:=first|rfl|omega)only[S1,aC,aE,aM,aJ,zB,reduceCtorEq,zD,zG,zH,aU,vJ 159 rfl,c1 _,sB]
 unfold mW
 refine cM (fun e=> ?_) (fun e=> ?_)
 ·simp (disch:=first|rfl|omega)only[S1,zB,reduceCtorEq,zD,zG,zH,aU,vJ 161 rfl,c2 _]
  rw[if_pos (ae e)]
 ·simp (disch:=first|rfl|omega)only[S1,zB,reduceCtorEq,zD,zG,zH,aU]
  rw[if_neg (af e)]
theorem bG3{q:Rat}(h:FR 9000000 q):CC (VX (m+6)) 229 [tR q] (tR (mW q)):= .of (aCl q) (aCe q) (bH4 h)
theorem aG3{et:fP}{k:bR6}{z:Int}:bU et .gtr (.int k z) (.int k ((0:Nat):Int))=some (.b (decide (0<z))):=by simp [bU,dX]
theorem aYh:bO PG 160 f160 [2,26,16] []=true:=by kernel_rfl
theorem bAN{a:List Rat}{k:Nat}(d:WD k a)(c:a.length<=400)(w:k<=200000):VX (m+14) 160 [tP a]=some (tR (iW a),false):=by
 have f1:=aBF (m:=m) (a:=a) (d.ps (by omega) (by omega))
 refine bX rfl func160 aYh rfl ?_
 simp only[f160,N1,bC,bF,bH,bG,bE,zB,zG]
 simp (disch:=first|rfl|omega)only[S1,aN,aC,aE,aM,aJ,zB,aU,vJ 69 rfl,f1 _]
 have z0:=aFQ (m:=m+7)
 have la:=kX a
 have ta:=fN a
 unfold iW
 refine cM (fun e=> ?_) (fun e=> ?_)
 ·simp (disch:=first|rfl|omega)only[S1,zB,reduceCtorEq,zD,zG,zH,aU,vJ 225 rfl,z0 _]
  rw[if_pos (ae e)]
 ·rw [if_neg (af e)]
  simp (disch:=first|rfl|omega)only[S1,aC,aE,aM,aJ,zB,zD,zG,aU,vJ 225 rfl,z0 _]
  have F:2<=(bL a).length:=by have:=af e;omega
  have wp:=d.monic
  have pp:PS 18500 (bL a):=wp.ps (by omega) (by omega)
  have fm:∀i,FR 18500 (lZ (bL a) i):=fun i=>qY (aIv wp i) (by omega)
  refine .up (fun i e s=>s.nxt=2/\s.ob 0=⟨0,[.b false,.nil,.b false,.nil]⟩/\(∃q,q=lZ (bL a) i/\s.ob 1=⟨0,cR q⟩)/\e 0=some (tP (bL a))/\e 2=some (.po 0 0)/\e 3=some (.po 1 0)/\e 4=some (.int .i64 (i:Nat))) ((bL a).length-1) ?_ (dB (by omega)) ?_
  ·refine⟨rfl,rfl,⟨0,rfl,rfl⟩, ?_, ?_, ?_, ?_⟩<;>simp (disch:=first|rfl|omega)only[S1,zB]
  ·rintro i e s I ⟨sn,f,⟨q,hq,s1⟩,e0,v,g,o⟩
   have fq:FR 18500 q:=by rw[hq];exact fm i
   by_cases hc:i<(bL a).length-1
   ·have h1:decide (i+1<(bL a).length)=true:=ak (by omega)
    have fc:FR 18500 (co (bL a) i):=pp.co (by omega)
    have c1:=bG3 (m:=m+7) (fc.mono (k:=9000000) (by decide))
    have fa:FR 18500 (mW (co (bL a) i)):=⟨by rw[(aBu _).2];exact fc.1,by rw[(aBu _).1];exact fc.2⟩
    have c2:=aTt (m:=m+6) (a:=mW (co (bL a) i)) (b:=q) (fa.mono (by decide)) (fq.mono (by decide))
    simp (disch:=first|rfl|omega)only[S1,aN,aC,aE,aM,aJ,zB,reduceCtorEq,zD,zG,zH,aU,cR,e0,g,o,sn,s1,h1,lF,kY,c1 _,c2 _,aG3]
    refine cM (fun r=> ?_) (fun r=> ?_)
    ·simp (disch:=first|rfl|omega)only[S1,aC,aE,aM,aJ,zB,zD,zG,aU,cR,e0,v,g,o,sn,f,s1,lF,kY,vJ 229 rfl,c1 _]
     exact⟨hc,_,by rw[lZ,←hq,if_pos (ae r)],rfl⟩
    ·simp (disch:=first|rfl|omega)only[S1,aC,aE,aM,aJ,zB,cR,e0,v,g,o,sn,f,s1]
     exact⟨hc,_,by rw[lZ,←hq,if_neg (af r)],rfl⟩
   ·have h1:decide (i+1<(bL a).length)=false:=ai (by omega)
    obtain rfl:i=(bL a).length-1:=by omega
    have c1:=aAd (m:=m+8) (z:=((1:Nat):Int)) (by decide) (by decide)
    have c2:=aKD (m:=m+3) (a:=q) (b:=((((1:Nat):Int)):Rat)) (fq.mono (by decide)) ⟨aX.one (by decide),aX.one (by decide)⟩
    simp (disch:=first|rfl|omega)only[S1,aN,aC,aE,aM,aJ,zB,reduceCtorEq,zD,zG,zH,aU,cR,e0,v,g,o,sn,f,s1,h1,c1 _,c2 _]
    rw[hq]
    rfl
theorem bA5{a:List Rat}{k:Nat}(d:WD k a)(c:a.length<=400)(w:k<=200000):CC (VX (m+14)) 160 [tP a] (tR (iW a)):= .of (iM a) (jD a) (bAN d c w)
theorem eC:cW PG 34=some 35:=by kernel_rfl
theorem kP':dG PG 35=true:=by kernel_rfl
theorem sP':aY PG 35=1:=by kernel_rfl
theorem aP':jZ PG 35=false:=by kernel_rfl
theorem cP':dN PG 35=true:=by kernel_rfl
theorem zP':pO PG 35=some [.nil]:=by kernel_rfl
def iY:EC (List Rat):=⟨fun l=>[tP l],1,by decide,fun _=>rfl,iM,fun l=>by simp only[iO,bKK,bLk,aKC,bKr],3,fun l=>by simp only[bT,vZ];omega⟩
def tC(c:List (List Rat)):TV:=iY.t c
theorem aTc{c:List (List Rat)}:jW PG 34 (tC c)=some (.int .i64 (c.length:Nat)):=aGj (E:=iY) eC sP'
theorem bAE{c:List (List Rat)}{j:Nat}(h:j<c.length):mI PG 34 (tC c) j=some (.pi (iY.row c) (j*1)):=aFr (E:=iY) eC kP' sP' h
theorem bF4{c:List (List Rat)}{j:Nat}{s:VS}(h:j<c.length):kP PG 35 s (.pi (iY.row c) (j*1))=some (tP (c.getD j [])):=by
 rw[aI6 aP']
 have:=iY.get (l:=c) (j:=j) (o:=0) h (by decide)
 exact this
theorem bAP{c:List (List Rat)}{j:Nat}{s:VS}(h:j<c.length):kP PG 35 s (.pi (iY.row c) j)=some (tP (c.getD j [])):=by
 have:=bF4 (s:=s) h
 rwa [bKk]at this
theorem aKn(c:List (List Rat)):cQ (tC c):=iY.t_can c
theorem aKm(c:List (List Rat)):cV (tC c)=1:=iY.t_siz c
theorem aKB(c:List (List Rat))(q:Rat):Can [tC c,tR q]:=Can.cons (aKn c) (Can.cons (yR q) Can.nil)
theorem aT5(c:List (List Rat))(q:Rat):bT [tC c,tR q]<=cL:=by simp only[bT,aKm,vV];decide
theorem aSY{s:VS}{c:List (List Rat)}:dJ s [tC c]=some (tC c,false):=tN (aKn c) (by rw[aKm];decide)
theorem aTF{c:List (List Rat)}:(tC c).one=true:=iY.t_one
theorem aON{c:List (List Rat)}:(tC c).cells=[tC c]:=iY.t_cells
theorem fM.stepC{y s:VS}{v:TV}{c:List (List Rat)}(h:fM iY y s v c)(l:List Rat)(n1:c.length<=10000000):∃v' s',gT PG 35 (s.new [tP l]) v (.ow s.nxt 0 1 1)=some (v',s')/\fM iY y s' v' (c++[l]):=h.step l cP' sP' n1
theorem iZ:type_of%(ab @eC (ab @kP' (ab @sP' (ab @aP' (ab @cP' (ab @zP' (ab @aTc (ab @aSY (ab @aTF (@aON)))))))))):=(ab @eC (ab @kP' (ab @sP' (ab @aP' (ab @cP' (ab @zP' (ab @aTc (ab @aSY (ab @aTF (@aON))))))))))
theorem aZg:bO PG 163 f163 [2,19] []=true:=by kernel_rfl
theorem bC9{a:List Rat}{k:Nat}(h:gN k a):VX (m+17) 163 [tP a]=some (tC (iV a),false):=by
 have h2:=h.two
 have U:=h.len
 have ta:=fN a
 have V:(k+11)*3<=584000:=bJH (bK5 _ (show 3<=3^((tr a).length-1)from bK2 (n:=3) (show 0<3 by decide) (show 1<=(tr a).length-1 by omega))) h.h1
 have W:decide (((tr a).length:Nat)<2)=false:=ai (by omega)
 have f1:=aY6 (m:=m+9) (l:=a) (h.wd.ps (by omega) (by omega))
 rw[wA (show 0<(tr a).length by omega)]at f1
 have f2:=bHj (m:=m) h.wd (by omega) h2 h.gcd (bJH h.h1 (by decide))
 rw[h.sqf]at f2
 obtain⟨A,J,K,B⟩:=h.der
 have f3:=aKz (m:=m+5) (l:=bL a) (A.ps (by omega) (by omega))
 have L:decide ((tr a).length-1<1)=false:=ai (by omega)
 refine jR rfl func163 aZg rfl ?_
 simp only[f163,N1,bC,bF,bH,bG,bE,zB,zG]
 simp (disch:=first|rfl|omega)only[S1,aC,aE,aM,aJ,aD,zB,zE,zH,aU,iZ,vJ 231 rfl,f1 _,L,vJ 232 rfl,f2 _,vJ 27 rfl,f3 _]
 have C:=h.all
 have i:∀x,1<=x->(k+11)*3^((tr a).length-x)-1<=584000:=fun x h1=>by
  have:=bK5 (k+11) (bK2 (show 0<3 by decide) (show(tr a).length-x<=(tr a).length-1 by omega))
  have:=h.h1
  omega
 refine .loop (fun n e s=>∃out p q f v,e 3=some (tP p)/\e 4=some v/\e 5=some (tP q)/\fM iY dZ s v out/\out++qJ f p q=iV a/\q.length<f/\NF p/\NF q/\q.length<p.length/\p.length<=(tr a).length/\WD ((k+11)*3^((tr a).length-p.length)-1) p/\WD ((k+11)*3^((tr a).length-p.length)-1) q/\n=q.length) (dV (bL a)).length ?_ (dB (by omega)) ?_
 ·refine⟨[bL a],bL a,dV (bL a),(dV (bL a)).length+1,.ow 0 0 1 1, ?_, ?_, ?_,⟨.inr ⟨0,rfl,Nat.one_pos,rfl⟩,bJJ _,fun j M=>absurd M (Nat.not_lt_zero _),fun _ _ _ _ _=>bJJ _⟩, ?_,bJT _,.pmonic a,.pder _,K,by omega, ?_, ?_,rfl⟩
  ·simp (disch:=first|rfl|omega)only[S1,zB]
  ·simp (disch:=first|rfl|omega)only[S1,zB]
  ·simp (disch:=first|rfl|omega)only[S1,zB]
  ·rw[h.chain];rfl
  ·rw[B,bKS,bLe,bKk];exact A
  ·rw[B,bKS,bLe,bKk];exact J
 ·rintro n e s ⟨out,p,q,f,v,D,F,G,H,r,hf,np,nq,u,N,wp,wq,rfl⟩
  obtain⟨f,rfl⟩:∃g,f=g+1:=⟨f-1,by omega⟩
  have O:out.length<=(tr a).length:=by have:=congrArg List.length r;rw[bJW]at this;omega
  by_cases hc:0<q.length
  ·have h1:decide (0<q.length)=true:=ak hc
   have d:q≠ []:=bKz.1 hc
   obtain⟨I,P,X⟩:=aBR wp wq np nq d u N (show 1<=k+11 by omega)
   obtain⟨Q,Y⟩:=aBv (a:=p) (b:=q) (by rw[nq.eq];exact d)
   rw[nq.eq]at Q
   have Z:=i p.length (by omega)
   have b2:=i q.length (by omega)
   have R:=h.h1
   have c1:=aId (m:=m+2) (a:=p) (b:=q) wp wq (by omega) (by omega) (by rw[nq.eq];exact d) (by rw[np.eq,nq.eq];omega) (by omega)
   have c2:=aAd (m:=m+11) (z:= -1) (by decide) (by decide)
   have c3:=aFm (m:=m+5) (l:=fH p q) (I.ps (by omega) (by omega)) FR.neg1
   obtain⟨v',s',ea,w⟩:=H.stepC q (by omega)
   have ls:=aHQ (fH p q) ((-1:Int):Rat)
   simp (disch:=first|rfl|omega)only[S1,aK,aN,aC,aE,aM,aJ,aD,zB,zE,zH,aU,iZ,D,F,G,h1,ea,vJ 70 rfl,c1 _,vJ 72 rfl,c2 _,vJ 151 rfl,c3 _]
   refine⟨_, ?_,out++[q],q,eH (fH p q) ((-1:Int):Rat),f,v',rfl,rfl,rfl,w, ?_, ?_,nq,.tr _, ?_,by omega,P,I.neg1,rfl⟩
   ·omega
   ·rw[←r,qJ,if_neg d,List.append_assoc];rfl
   ·omega
   ·omega
  ·have h1:decide (0<q.length)=false:=ai hc
   have d:q=[]:=bKB (by omega)
   have S:=H.bld.ret (show out.length*3+1<=cL by have:cL=100000000:=rfl;omega)
   have T:out=iV a:=by rw[←r,qJ,if_pos d,List.append_nil]
   simp (disch:=first|rfl|omega)only[S1,aN,aC,aE,aM,aJ,zB,reduceCtorEq,aU,F,G,h1]
   rw[S,T];rfl
theorem bBQ{a:List Rat}{k:Nat}(h:gN k a):CC (VX (m+17)) 163 [tP a] (tC (iV a)):= .of (iM a) (jD a) (bC9 h)
def Sm(z:Int):Prop:= -1<=z/\z<=1
theorem Sm.sg(q:Rat):Sm (gB q):=aD6 q.num
theorem bBs{z:Int}(h:Sm z):vD .neg (.int .i64 z)=some (.int .i64 (-z)):=by
 simp only[vD]
 rw[vL (by have:=h.1;have:=h.2;omega) (by have:=h.1;have:=h.2;omega)]
theorem bEc{et:fP}{k:bR6}{z w:Int}:bU et .eql (.int k z) (.int k w)=some (.b (decide (z=w))):=by simp only[bU,dX,if_true]
theorem aCa{et:fP}{k:bR6}{z:Int}:bU et .neq (.int k z) (.int k ((0:Nat):Int))=some (.b (!decide (z=0))):=by simp only[bU,dX,if_true];rfl
theorem aM7(x:Rat):∀(c d:List (List Rat)) (s:Nat×Int),jI x (c++d) s=jI x d (jI x c s)
 | [],_,_=>rfl
 |p::c,d,s=>by simp only[List.cons_append,jI];exact aM7 x c d _
theorem aOh{x:Rat}{c:List (List Rat)}{j:Nat}(h:j<c.length)(s:Nat×Int):jI x (c.take (j+1)) s=(if gB (eO x (c.getD j []))=0 then jI x (c.take j) s else(if gB (eO x (c.getD j []))= -(jI x (c.take j) s).2 then(jI x (c.take j) s).1+1 else(jI x (c.take j) s).1,gB (eO x (c.getD j [])))):=by
 have e:c.take (j+1)=c.take j++[c.getD j []]:=by
  rw[bLd h];simp [h]
 rw[e,aM7];rfl
theorem aJQ(x:Rat):∀(c:List (List Rat)) (s:Nat×Int),Sm s.2->Sm (jI x c s).2
 | [],_,h=>h
 |p::c,s,h=>by
  unfold jI
  refine aJQ x c _ ?_
  split
  ·exact h
  ·exact .sg _
theorem bD3:bO PG 164 f164 [4,27,23] []=true:=by kernel_rfl
theorem bHR{c:List (List Rat)}{x:Rat}{k:Nat}(hc:c.length<=400)(v:∀p∈c,WD 584000 p/\p.length<=400/\584000+(k+1)*p.length<=694000)(hx:x.den<2^k/\x.num.natAbs<2^k)(E:k<=300000):VX (m+12) 164 [tC c,tR x]=some (.int .i64 (gO c x:Nat),false):=by
 refine bX rfl func164 bD3 rfl ?_
 simp only[f164,N1,bC,bF,bH,bG,bE,zB,zG]
 simp (disch:=first|rfl|omega)only[S1,aC,aE,aM,aJ,zB,zD,aU]
 refine .up (fun j e s=>s.nxt=1/\s.ob 0=⟨0,cR x⟩/\e 0=some (tC c)/\e 3=some (.po 0 0)/\e 5=some (.int .i64 ((jI x (c.take j) (0,0)).1:Nat))/\e 6=some (.int .i64 (jI x (c.take j) (0,0)).2)/\e 7=some (.int .i64 (j:Nat))) c.length ?_ (dB (by omega)) ?_
 ·refine⟨rfl,rfl, ?_, ?_, ?_, ?_, ?_⟩<;>simp (disch:=first|rfl|omega)only[S1,zB]
  ·rfl
  ·rfl
 ·rintro j e s F ⟨sn,A,e0,B,i,t,C⟩
  by_cases f:j<c.length
  ·have h1:decide (j<c.length)=true:=ak f
   obtain⟨p,D⟩:∃p,p=c.getD j []:=⟨_,rfl⟩
   have M:p∈c:=by rw[D];simp [f]
   obtain⟨I,Q,R⟩:=v p M
   have J:∀n,FR 22000 (eO x (p.drop n)):=fun n=>qY (aLM (I.drop n) hx.1 hx.2) (by
    have:=bK5 (k+1) (show(p.drop n).length<=p.length by rw[List.length_drop];omega)
    omega)
   have c1:=bEk (m:=m) (l:=p) (x:=x) (I.ps (by omega) (by omega)) (qY hx (by omega)) J
   have fe:FR 22000 (eO x p):=J 0
   have c2:=aJU (m:=m+6) (q:=eO x p) (fe.mono (by decide))
   have K:=aOh f (0,0) (x:=x)
   rw[←D]at K
   have hs:=aJQ x (c.take j) (0,0) ⟨by decide,by decide⟩
   have g:=aDL x (c.take j) (0,0)
   have G:(c.take j).length=j:=by rw[bJO];omega
   rw[K]
   obtain⟨st,H⟩:∃st,st=jI x (c.take j) (0,0):=⟨_,rfl⟩
   rw[←H]at i t hs g ⊢
   have g:st.1<=j:=by rw[G]at g;exact bJH g (by show 0+j<=j;omega)
   simp (disch:=first|rfl|omega)only[S1,aN,aC,aE,aM,aJ,zB,reduceCtorEq,zD,zG,zH,aU,iZ,cR,sn,A,e0,B,C,h1,bAE,bAP,bKk,←D,c1 _,c2 _,aCa]
   refine cM (fun u=> ?_) (fun u=> ?_)
   ·have u:¬gB (eO x p)=0:=by simpa using u
    rw[if_neg u]
    simp (disch:=first|rfl|omega)only[S1,zB,t,bBs hs,bEc]
    refine cM (fun o=> ?_) (fun o=> ?_)
    ·simp (disch:=first|rfl|omega)only[S1,aC,aE,aM,aJ,zB,cR,sn,A,e0,B,i,t,C]
     rw[if_pos (ae o)]
     exact⟨f,rfl⟩
    ·simp (disch:=first|rfl|omega)only[S1,aC,aE,aM,aJ,zB,cR,sn,A,e0,B,i,t,C]
     rw[if_neg (af o)]
     exact⟨f,rfl⟩
   ·have u:gB (eO x p)=0:=by simpa using u
    rw[if_pos u]
    simp (disch:=first|rfl|omega)only[S1,aC,aE,aM,aJ,zB,cR,sn,A,e0,B,i,t,C]
    exact f
  ·have h1:decide (j<c.length)=false:=ai f
   obtain rfl:j=c.length:=by omega
   rw[bKp]at i
   simp (disch:=first|rfl|omega)only[S1,aN,zB,reduceCtorEq,iZ,cR,e0,i,C,h1]
   rfl
theorem aTC{c:List (List Rat)}{x:Rat}{k:Nat}(hc:c.length<=400)(v:∀p∈c,WD 584000 p/\p.length<=400/\584000+(k+1)*p.length<=694000)(hx:x.den<2^k/\x.num.natAbs<2^k)(E:k<=300000):CC (VX (m+12)) 164 [tC c,tR x] (.int .i64 (gO c x:Nat)):= .of (aKB c x) (aT5 c x) (bHR hc v hx E)
theorem aRl(l:List Rat)(q r:Rat):Can [tP l,tR q,tR r]:=Can.cons (uC l) (pK q r)
theorem aQW(l:List Rat)(q r:Rat):bT [tP l,tR q,tR r]<=cL:=by simp only[bT,vZ,vV];decide
theorem aAG{et:fP}{k:bR6}{z:Int}:bU et .geq (.int k z) (.int k ((0:Nat):Int))=some (.b (decide (0<=z))):=by simp [bU,dX]
theorem aRu{et:fP}{x y:Nat}(h:x<1000000)(h':y<1000000):bU et .sub (.int .i64 (x:Int)) (.int .i64 (y:Int))=some (.int .i64 ((x:Int)-(y:Int))):=by
 simp only[bU,dX,if_true]
 rw[vL (by omega) (by omega)]
theorem aGl{k:Nat}{a:List Rat}(h:gN k a)(x:Rat):gO (iV a) x<=400:=by
 have h1:=aDL x (iV a) (0,0)
 have h2:=h.all.2
 have S:=fN a
 have T:=h.len
 exact bJH h1 (by show 0+(iV a).length<=400;omega)
theorem aXT:bO PG 75 f75 [6] []=true:=by kernel_rfl
theorem bC6{a:List Rat}{k j:Nat}{x y:Rat}(h:gN k a)(hx:x.den<2^j/\x.num.natAbs<2^j)(o:y.den<2^j/\y.num.natAbs<2^j)(F:(j+1)*(tr a).length<=110000):VX (m+18) 75 [tP a,tR x,tR y]=some (.int .i64 (yU a x y),false):=by
 have h2:=h.two
 have U:=h.len
 have ta:=fN a
 have N:(j+1)*1<=(j+1)*(tr a).length:=bK5 _ (by omega)
 have fx:FR 74900 x:=qY hx (by omega)
 have fy:FR 74900 y:=qY o (by omega)
 have c1:=aTt (m:=m+10) (a:=x) (b:=y) fx fy
 have c2:=bBQ (m:=m) h
 have v:∀p∈iV a,WD 584000 p/\p.length<=400/\584000+(j+1)*p.length<=694000:=fun p D=>by
  obtain⟨O,i2⟩:=h.all.1 p D
  have:=bK5 (j+1) i2
  exact⟨O,by omega,by omega⟩
 have P:=h.all.2
 have c3:=aTC (m:=m+5) (c:=iV a) (x:=x) (by omega) v hx (by omega)
 have c4:=aTC (m:=m+5) (c:=iV a) (x:=y) (by omega) v o (by omega)
 have n1:=aGl h x
 have V:=aGl h y
 refine bX rfl func75 aXT rfl ?_
 simp only[f75,N1,bC,bF,bH,bG,bE,zB,zG]
 simp (disch:=first|rfl|omega)only[S1,aC,aE,aM,aJ,zB,reduceCtorEq,zD,zG,zH,aU,vJ 162 rfl,c1 _,aAG]
 unfold yU
 refine cM (fun e=> ?_) (fun e=> ?_)
 ·rw[if_pos (ae e)]
  simp (disch:=first|rfl|omega)only[S1,aC,aE,aM,aJ,zB,reduceCtorEq]
  rfl
 ·rw[if_neg (af e)]
  simp (disch:=first|rfl|omega)only[S1,zB,reduceCtorEq,zD,zG,zH,aU,vJ 163 rfl,c2 _,c3 _,c4 _,aRu (show gO (iV a) x<1000000 by omega) (show gO (iV a) y<1000000 by omega)]
theorem bAL{a:List Rat}{k j:Nat}{x y:Rat}(h:gN k a)(hx:x.den<2^j/\x.num.natAbs<2^j)(o:y.den<2^j/\y.num.natAbs<2^j)(F:(j+1)*(tr a).length<=110000):CC (VX (m+18)) 75 [tP a,tR x,tR y] (.int .i64 (yU a x y)):= .of (aRl a x y) (aQW a x y) (bC6 h hx o F)
theorem bCM{s:VS}{q r:Rat}:dJ s [tR q,tR r]=some (.tp [tR q,tR r],false):=aBQ (pK q r) (sH q r)
theorem _root_.Go.Proofs.YtmjoaipkaddkbaaGreatDoor.gN.k9{k:Nat}{a:List Rat}(h:gN k a):k<=50000:=by
 have h1:=bK5 (k+3) h.two
 have h2:=h.h2
 omega
theorem bBe:bO PG 74 f74 [3,2] [(2,[(4,2),(4,3)])]=true:=by kernel_rfl
theorem bDN{a:List Rat}{k:Nat}(h:gN k a):VX (m+15) 74 [tP a]=some (.tp [tR (-iW a),tR (iW a)],false):=by
 have E:=h.k9
 have c1:=bA5 (m:=m) h.wd h.len (by omega)
 have fb:FR 74900 (iW a):=qY (aEP h.wd) (by omega)
 have c2:=aTz (m:=m+10) (q:=iW a) (fb.mono (by decide))
 refine bX rfl func74 bBe rfl ?_
 simp only[f74,N1,bC,bF,bH,bG,bE,zB,zG]
 simp (disch:=first|rfl|omega)only[S1,aL,zB,zC,reduceCtorEq,zD,zG,zH,aU,vJ 160 rfl,c1 _,c2 _,bCM]
theorem bF6{a:List Rat}{k:Nat}(h:gN k a):CC (VX (m+15)) 74 [tP a] (.tp [tR (-iW a),tR (iW a)]):= .of (iM a) (jD a) (bDN h)
theorem aZD:bO PG 28 f28 [2] []=true:=by kernel_rfl
theorem bAY{a:List Rat}{k:Nat}(h:gN k a):VX (m+19) 28 [tP a]=some (.int .i64 (aAK a),false):=by
 have E:=h.k9
 have c1:=bF6 (m:=m+3) h
 have L:=aEP h.wd
 have c2:=bAL (m:=m) (j:=k+2) h (aNN L) L (by have:=h.h2;rw[show k+2+1=k+3 from rfl];omega)
 refine bX rfl func28 aZD rfl ?_
 simp only[f28,N1,bC,bF,bH,bG,bE,zB,zG]
 simp (disch:=first|rfl|omega)only[S1,aC,aE,aM,aJ,zB,reduceCtorEq,zD,zG,zH,aU,vJ 74 rfl,c1 _,vJ 75 rfl,c2 _]
 rfl
theorem bAi{a:List Rat}{k:Nat}(h:gN k a):CC (VX (m+19)) 28 [tP a] (.int .i64 (aAK a)):= .of (iM a) (jD a) (bAY h)
def tX(x:Bool×List Nat):TV:= .ag (ci x.1 x.2)
def eA(x:Bool×List Nat):Bool:=decide ((cJ x.2).length=x.2.length)&&(!x.1||decide (0<x.2.length))
theorem bHu(x:Bool×List Nat):cQ (tX x):=cQ.ag (aGo _ _)
theorem bGD(x:Bool×List Nat):cV (tX x)=6:=by simp only[tX,ci,cV,bT,fK]
theorem aKb(x:Bool×List Nat):Can [tX x]:=Can.cons (bHu x) Can.nil
theorem aKf(x:Bool×List Nat):bT [tX x]<=cL:=by simp only[bT,bGD];decide
theorem rY{x:Bool×List Nat}:(tX x).cells=[.b x.1,tW x.2]:=rfl
def eP:EC (Bool×List Nat):=⟨fun x=>[.b x.1,tW x.2],2,by decide,fun _=>rfl,fun x=>aGo x.1 x.2,fun _=>by simp only[iO,bKK,bLk,aGU,aEa,bKr],5,fun _=>by simp only[bT,cV,fK];omega⟩
def eV(l:List (Bool×List Nat)):TV:=eP.t l
theorem eZ:cW PG 22=some 47:=by kernel_rfl
theorem kZ:dG PG 22=true:=by kernel_rfl
theorem aZ:jZ PG 22=false:=by kernel_rfl
theorem cZ:dN PG 22=true:=by kernel_rfl
theorem sZ:aY PG 22=1:=by kernel_rfl
theorem fA0:lI PG 24 0=some (0,22):=by kernel_rfl
theorem fA1:lI PG 24 1=some (1,3):=by kernel_rfl
theorem pA0:qW PG 24 0=some (0,1):=by kernel_rfl
theorem pA1:qW PG 24 1=some (1,1):=by kernel_rfl
theorem zA:pO PG 24=some [.nil,.int .i64 ((0:Nat):Int)]:=by kernel_rfl
theorem bA:aAi PG 24=true:=by kernel_rfl
theorem kA:dG PG 24=true:=by kernel_rfl
theorem aA:jZ PG 24=true:=by kernel_rfl
theorem sA:aY PG 24=2:=by kernel_rfl
theorem kin:dG PG 3=true:=by kernel_rfl
theorem ain:jZ PG 3=false:=by kernel_rfl
theorem cin:dN PG 3=true:=by kernel_rfl
theorem sin:aY PG 3=1:=by kernel_rfl
theorem aSs{l:List (Bool×List Nat)}:jW PG 22 (eV l)=some (.int .i64 (l.length:Nat)):=aGj (E:=eP) eZ sI
theorem pD{l:List (Bool×List Nat)}{j:Nat}(h:j<l.length):mI PG 22 (eV l) j=some (.pi (eP.row l) (j*2)):=aFr (E:=eP) eZ kI sI h
theorem pI{l:List (Bool×List Nat)}{j:Nat}{s:VS}(h:j<l.length):kP PG 47 s (.pi (eP.row l) (j*2))=some (tX (l.getD j (false,[]))):=by
 have e:=eP.all h
 simp only[kP,qM,aI,if_true,sI]
 rw[show(2:Nat)=eP.sz from rfl,e]
 rfl
theorem aRL{l:List (Bool×List Nat)}:(eV l).one=true:=eP.t_one
theorem aNy{l:List (Bool×List Nat)}:(eV l).cells=[eV l]:=eP.t_cells
theorem aJW(l:List (Bool×List Nat)):cV (eV l)=1:=eP.t_siz l
def tF(l:List (Bool×List Nat))(r:Int):TV:= .ag [eV l,.int .i64 r]
theorem aPy{l:List (Bool×List Nat)}{r:Int}:(tF l r).cells=[eV l,.int .i64 r]:=rfl
theorem aQ9{l:List (Bool×List Nat)}{r:Int}:TV.ag [eV l,.int .i64 r]=tF l r:=rfl
theorem bIl(l:List (Bool×List Nat))(r:Int):Can [eV l,.int .i64 r]:=Can.cons (eP.t_can l) (Can.cons (cQ.int _ _) Can.nil)
theorem bH7(l:List (Bool×List Nat))(r:Int):cQ (tF l r):=cQ.ag (bIl l r)
theorem bGK(l:List (Bool×List Nat))(r:Int):cV (tF l r)=6:=by simp only[tF,cV,bT,aJW]
theorem TF:type_of%(ab @eZ (ab @kZ (ab @aZ (ab @cZ (ab @sZ (ab @fA0 (ab @fA1 (ab @pA0 (ab @pA1 (ab @zA (ab @bA (ab @kA (ab @aA (ab @sA (ab @kin (ab @ain (ab @cin (ab @sin (ab @aSs (ab @aRL (ab @aNy (ab @aPy (ab @aQ9 (@rY)))))))))))))))))))))))):=(ab @eZ (ab @kZ (ab @aZ (ab @cZ (ab @sZ (ab @fA0 (ab @fA1 (ab @pA0 (ab @pA1 (ab @zA (ab @bA (ab @kA (ab @aA (ab @sA (ab @kin (ab @ain (ab @cin (ab @sin (ab @aSs (ab @aRL (ab @aNy (ab @aPy (ab @aQ9 (@rY))))))))))))))))))))))))
theorem zU{l:List (Bool×List Nat)}{j:Nat}(h:j<l.length):l.getD j (false,[])∈l:=by simp [h]
theorem aY8:bO PG 21 f21 [2] []=true:=by kernel_rfl
theorem bB9{x:Bool×List Nat}(h:x.2.length<10000000):VX (m+2) 21 [tX x]=some (.b (eA x),false):=by
 have c1:=aJJ (m:=m) (xs:=x.2) h
 refine bX rfl func21 aY8 rfl ?_
 simp only[f21,N1,bC,bF,bH,bG,bE,zB,zG]
 obtain⟨n,xs⟩:=x
 unfold eA
 simp only at h c1 ⊢
 cases a:decide ((cJ xs).length=xs.length)
 ·simp (disch:=first|rfl|omega)only[S1,aN,aC,aE,aM,aJ,zB,reduceCtorEq,zD,zG,zH,rY,aQ,(c1 _).1,a]
 ·cases n
  ·simp (disch:=first|rfl|omega)only[S1,aN,aC,aE,aM,aJ,zB,reduceCtorEq,zD,zG,zH,rY,aQ,(c1 _).1,a]
   rfl
  ·simp (disch:=first|rfl|omega)only[S1,aN,aC,aE,aM,aJ,zB,reduceCtorEq,zD,zG,zH,rY,aQ,(c1 _).1,a]
   rfl
theorem bAc{x:Bool×List Nat}(h:x.2.length<10000000):CC (VX (m+2)) 21 [tX x] (.b (eA x)):= .of (aKb x) (aKf x) (bB9 h)
end
end Ev
def xC(a:List Rat):Prop:=a≠ []/\co a (a.length-1)=1
theorem xC.of{a:List Rat}(h:tr a≠ []):xC (bL a):=by
 have d:=kX a
 have m:0<(tr a).length:=bKz.2 h
 refine⟨fun e=>by rw[e]at d;simp at d;omega, ?_⟩
 rw[d,aBD,show co a ((tr a).length-1)=gV a from(fG _ _).symm]
 have:=Rat.div_mul_cancel (a:=1) (tY h)
 rw[Rat.mul_comm];exact this
theorem xC.pgl:∀(f:Nat) (a b:List Rat),xC a->(b≠ []->xC b)->xC (qE f a b)
 |0,_,_,h,_=>h
 | f+1,a,b,h,o=>by
  unfold YtmjoaipkaddkbaaGreatDoor.qE
  split
  ·exact h
  ·next h0=>
   refine xC.pgl f b _ (o h0) fun h1=> ?_
   have:tr (fH a b)≠ []:=fun e=>h1 (by unfold bL eH;rw[e];rfl)
   exact .of this
theorem aQ2{a b:List Rat}(h:tr a≠ []):(gF a b).length=1↔gF a b=[1]:=by
 have p:xC (gF a b):=xC.pgl _ _ _ (.of h) fun h1=>by
  have:tr b≠ []:=fun e=>h1 (by unfold bL eH;rw[e];rfl)
  exact .of this
 constructor
 ·intro d
  obtain⟨_,h2⟩:=p
  match m:gF a b,d,h2 with
  | [x],_,h2=>
   have:x=1:=h2
   rw[this]
 ·intro e;rw[e];rfl
def dP(zs:List Int):List Rat:=zs.map (fun z:Int=>(z:Rat))
theorem bDp(zs:List Int)(j:Nat):co (dP zs) j=((zs.getD j 0:Int):Rat):=by
 unfold co dP
 simp only[List.getD_eq_getElem?_getD,List.getElem?_map]
 cases zs[j]? <;>rfl
def gz(zs:List Int):Nat:=zs.foldl (fun g z=>Int.gcd g z) 0
def vz(zs:List Int)(r:Int):Bool:=decide (2<=zs.length)&&decide (0<zs.getD (zs.length-1) 0)&&decide (gz zs=1)&&decide (gF (dP zs) (dV (dP zs))=[1])&&decide (0<=r)&&decide (r<aAK (dP zs))
theorem aQL{k:Nat}(u:1<=k){zs:List Int}(h:∀z∈zs,z.natAbs<2^k):WD k (dP zs):=by
 refine⟨1,by decide,Nat.one_lt_two_pow (by omega),fun q hq=> ?_⟩
 obtain⟨z,i,rfl⟩:=bKP.1 hq
 exact⟨z,Rat.mul_one _,h z i⟩
theorem xY(zs:List Int):(dP zs).length=zs.length:=by simp [dP]
theorem aQx{zs:List Int}(h:0<zs.getD (zs.length-1) 0):NF (dP zs):=fun _=>by
 rw[xY,bDp,ne_eq,Rat.intCast_eq_zero_iff];omega
def rS(zs:List Int):Prop:=zs.length<=8/\∀z∈zs,z.natAbs<2^256
theorem aRe{n:Nat}(h:n<=8):3^(n-1)<=2187:=bJH (bK2 (show 0<3 by decide) (show n-1<=7 by omega)) (by decide)
theorem aJ8{zs:List Int}(h:rS zs)(h2:2<=zs.length)(d:0<zs.getD (zs.length-1) 0)(s:gF (dP zs) (dV (dP zs))=[1]):gN 256 (dP zs):=by
 have hn:=(aQx d).eq
 have c:=xY zs
 have l:=h.1
 refine⟨aQL (by decide) h.2,by omega,by rw[hn];omega,s, ?_, ?_⟩
 ·rw[hn,c]
  have:=bK5 267 (aRe l)
  omega
 ·rw[hn,c];omega
theorem aQC{B:Nat}:∀(zs:List Int) (g:Nat),g<B->(∀z∈zs,z.natAbs<B)->zs.foldl (fun g z=>Int.gcd g z) g<B
 | [],_,h,_=>h
 | z::zs,g,h,i=>by
  refine aQC zs _ ?_ fun w t=>i w (.tail _ t)
  by_cases h0:z=0
  ·rw[h0];simpa using h
  ·have h1:=i z (.head _)
   have h2:Int.gcd (g:Int) z<=z.natAbs:=Nat.le_of_dvd (by omega) (Nat.gcd_dvd_right _ _)
   exact bK9 h2 h1
theorem aTW{zs:List Int}(h:∀z∈zs,z.natAbs<2^256):gz zs<2^256:=aQC zs 0 (by decide) h
theorem aN8(zs:List Int)(z:Int):gz (zs++[z])=Int.gcd (gz zs) z:=by simp [gz]
theorem aOz{zs:List Int}(h:rS zs)(h2:2<=zs.length)(d:0<zs.getD (zs.length-1) 0):WD 266 (dP zs)/\WD 266 (dV (dP zs))/\(tr (dV (dP zs))).length<(tr (dP zs)).length/\(266+1)*3^((tr (dP zs)).length-1)<=592000/\tr (dP zs)≠ []:=by
 have hn:=(aQx d).eq
 have c:=xY zs
 have l:=h.1
 have w:WD 256 (dP zs):=aQL (by decide) h.2
 have ld:=aBG (dP zs)
 refine⟨w.mono (by decide),w.der (by omega), ?_, ?_, ?_⟩
 ·rw[hn,(NF.pder _).eq];omega
 ·rw[hn,c]
  have:=bK5 267 (aRe l)
  omega
 ·rw[hn];intro e;rw[e]at c;simp at c;omega
namespace Ev
section
variable {m:Nat}
def cE(x:Bool×List Nat):Int:=sg x.1 (val x.2)
theorem tT{x:Bool×List Nat}(y:bD x.2)(h:eA x=true):tX x=tI (cE x):=by
 obtain⟨n,xs⟩:=x
 simp only[eA,Bool.and_eq_true,ap]at h
 have Z:cJ xs=xs:=by
  rw[nA,h.1,bKp]
 have hv:=aVF y Z
 have o:cE (n,xs)=sg n (val xs):=rfl
 rw[o,aGI,hv]
 show TV.ag (ci n xs)=_
 cases n
 ·rfl
 ·have h2:0<xs.length:=by simpa using h.2
  rw[ak h2];rfl
theorem qV(x:Bool×List Nat):(cE x).natAbs=val x.2:=aS3 _ _
theorem bBL:bO PG 24 f24 [4] []=true:=by kernel_rfl
theorem bDO{z w:Int}(h:aX 9000000 z.natAbs)(h':aX 9000000 w.natAbs):VX (m+2) 24 [tI z,tI w]=some (.b (decide (z=w)),false):=by
 have l1:=h.len
 have l2:=h'.len
 have c1:=aIp (m:=m) (a:=z.natAbs) (b:=w.natAbs) (by omega)
 refine bX rfl func24 bBL rfl ?_
 simp only[f24,N1,bC,bF,bH,bG,bE,zB,zG]
 simp (disch:=first|rfl|omega)only[S1,aC,aE,aM,aJ,zB,reduceCtorEq,zD,zG,zH,TI,aQ,wU,aK6]
 cases d:(decide (z<0)==decide (w<0))
 ·simp (disch:=first|rfl|omega)only[S1,aC,aE,aM,aJ,zB,reduceCtorEq]
  refine rb (ai fun e=> ?_).symm
  rw[e]at d;simp at d
 ·simp (disch:=first|rfl|omega)only[S1,aC,aE,aM,aJ,zB,reduceCtorEq,zD,zG,zH,aQ,vJ 68 rfl,c1 _,aFL]
  refine rb (decide_eq_decide.2 ?_)
  simp only[beq_iff_eq,decide_eq_decide]at d
  by_cases h1:z.natAbs<w.natAbs
  ·rw[if_pos h1];omega
  ·rw[if_neg h1]
   by_cases h2:w.natAbs<z.natAbs
   ·rw[if_pos h2];omega
   ·rw[if_neg h2];omega
theorem aR0{z w:Int}(h:aX 9000000 z.natAbs)(h':aX 9000000 w.natAbs):CC (VX (m+2)) 24 [tI z,tI w] (.b (decide (z=w))):= .of (mG z w) (mJ z w) (bDO h h')
theorem aTs(l:List (Bool×List Nat)):Can [eV l]:=Can.cons (eP.t_can l) Can.nil
theorem aS6(l:List (Bool×List Nat)):bT [eV l]<=cL:=by simp only[bT,aJW];decide
theorem aYU:bO PG 25 f25 [2] []=true:=by kernel_rfl
theorem bAB{l:List (Bool×List Nat)}(h:l.length<=1000)(y:∀x∈l,bD x.2)(M:∀x∈l,eA x=true):VX (m+5) 25 [eV l]=some (tP (dP (l.map cE)),false):=by
 refine jR rfl func25 aYU rfl ?_
 simp only[f25,N1,bC,bF,bH,bG,bE,zB,zG]
 simp (disch:=first|rfl|omega)only[S1,aC,aE,aM,aJ,zB]
 have c1:=xQ (m:=m) (z:=((1:Nat):Int)) (by decide) (by decide)
 refine .up (fun j e s=>∃v,e 0=some (eV l)/\e 3=some v/\e 4=some (.int .i64 (j:Nat))/\fM bP dZ s v (dP ((l.take j).map cE))) l.length ?_ (dB (by omega)) ?_
 ·refine⟨.nil, ?_, ?_, ?_,.nil _⟩<;>simp (disch:=first|rfl|omega)only[S1,zB]
 ·rintro j e s hj ⟨v,e0,f,i,N⟩
  have O:(dP ((l.take j).map cE)).length<=1000:=by rw[xY,bKo,bJO];omega
  by_cases hc:j<l.length
  ·have h1:decide (j<l.length)=true:=ak hc
   obtain⟨x,hx⟩:∃x,x=l.getD j (false,[]):=⟨_,rfl⟩
   have C:x∈l:=by rw[hx];exact zU hc
   have o:=tT (y x C) (M x C)
   have hf:TV.ag [.b (decide (cE x<0)),tW (aO (cE x).natAbs),.b (decide (((1:Nat):Int)<0)),tW (aO ((1:Nat):Int).natAbs)]=tR ((cE x:Int):Rat):=aTX rfl rfl
   obtain⟨v',s',ea,P⟩:=N.stepR ((cE x:Int):Rat) (by omega)
   simp (disch:=first|rfl|omega)only[S1,aK,aN,aC,aE,aM,aJ,aD,zB,zD,zE,zH,aU,TF,e0,f,i,h1,pD,pI,←hx,o,c1 _,hf,ea]
   refine⟨hc,v',rfl, ?_⟩
   have et:l.take (j+1)=l.take j++[x]:=by rw[bLd hc,hx];simp [hc]
   rw[et,bL6]
   unfold dP
   rw[bL6]
   exact P
  ·have h1:decide (j<l.length)=false:=ai hc
   obtain rfl:j=l.length:=by omega
   rw[bKp]at N O
   have S:=N.bld.ret (show(dP (l.map cE)).length*9+1<=cL by have:cL=100000000:=rfl;omega)
   simp (disch:=first|rfl|omega)only[S1,aN,zB,reduceCtorEq,TF,e0,f,i,h1]
   rw[S];rfl
theorem aZZ{l:List (Bool×List Nat)}(h:l.length<=1000)(y:∀x∈l,bD x.2)(M:∀x∈l,eA x=true):CC (VX (m+5)) 25 [eV l] (tP (dP (l.map cE))):= .of (aTs l) (aS6 l) (bAB h y M)
theorem aDM{et:fP}{k:bR6}{z:Int}:bU et .leq (.int k z) (.int k ((0:Nat):Int))=some (.b (decide (z<=0))):=by simp [bU,dX]
theorem aAz{et:fP}{k:bR6}{z w:Int}:bU et .lss (.int k z) (.int k w)=some (.b (decide (z<w))):=by simp only[bU,dX,if_true]
theorem aXz:bO PG 7 f7 [2,49,21] []=true:=by kernel_rfl
theorem aZz{l:List (Bool×List Nat)}{r:Int}(h:l.length<=8)(y:∀x∈l,bD x.2/\val x.2<2^256/\x.2.length<1000)(_: -9223372036854775808<=r/\r<9223372036854775808):VX (m+20) 7 [tF l r]=some (.b (l.all eA&&vz (l.map cE) r),false):=by
 refine bX rfl func7 aXz rfl ?_
 simp only[f7,N1,bC,bF,bH,bG,bE,zB,zG]
 have g0:=xQ (m:=m+15) (z:=((0:Nat):Int)) (by decide) (by decide)
 simp (disch:=first|rfl|omega)only[S1,aC,aE,aM,aJ,zB,zD,zG,aU,TF,vJ 20 rfl,g0 _]
 refine .up (fun j e s=>s.nxt=2/\s.ob 0=⟨0,[eV l,.int .i64 r]⟩/\(∃g:Int,g=(gz ((l.take j).map cE):Nat)/\s.ob 1=⟨0,[.b (decide (g<0)),tW (aO g.natAbs)]⟩)/\e 1=some (.po 0 0)/\e 3=some (.po 1 0)/\e 4=some (.int .i64 (j:Nat))/\(l.take j).all eA=true) l.length ?_ (dB (by omega)) ?_
 ·refine⟨rfl,rfl,⟨_,rfl,rfl⟩, ?_, ?_, ?_,rfl⟩<;>simp (disch:=first|rfl|omega)only[S1,zB]
 ·rintro j e s hj ⟨sn,A,⟨g,q,s1⟩,B,f,i,K⟩
  have E:∀z∈(l.take j).map cE,z.natAbs<2^256:=fun z o=>by
   obtain⟨x,hx,rfl⟩:=bKP.1 o
   rw[qV];exact(y x (List.mem_of_mem_take hx)).2.1
  have fg:aX 9 g.natAbs:=by rw[q];exact bKV (aTW E) (by decide)
  by_cases hc:j<l.length
  ·have h1:decide (j<l.length)=true:=ak hc
   obtain⟨x,hx⟩:∃x,x=l.getD j (false,[]):=⟨_,rfl⟩
   have C:x∈l:=by rw[hx];exact zU hc
   have G:=y x C
   have c1:=bAc (m:=m+17) (x:=x) (by omega)
   have et:l.take (j+1)=l.take j++[x]:=by rw[bLd hc,hx];simp [hc]
   simp (disch:=first|rfl|omega)only[S1,aN,zB,reduceCtorEq,zD,zG,zH,TF,aQ,sn,A,B,i,h1,pD,pI,←hx,vJ 21 rfl,c1 _]
   cases d:eA x
   ·simp (disch:=first|rfl|omega)only[S1,aC,aE,aM,aJ,zB,reduceCtorEq]
    refine rb ?_
    have:l.all eA=false:=by
     rw[List.all_eq_false]
     exact⟨x,C,by rw[d];decide⟩
    rw[this,bLH]
   ·have o:=tT G.1 d
    have fz:aX 9 (cE x).natAbs:=by rw[qV];exact bKV G.2.1 (by decide)
    have c2:=aEh (m:=m+14) (z:=g) (w:=cE x) (fg.mono (by decide)) (fz.mono (by decide))
    simp (disch:=first|rfl|omega)only[S1,aC,aE,aM,aJ,zB,reduceCtorEq,zD,zG,zH,aU,TF,aQ,sn,A,s1,B,f,i,pD,pI,←hx,o,c2 _]
    refine⟨hc,⟨_, ?_,rfl⟩, ?_⟩
    ·rw[et,bL6,show [x].map cE=[cE x]from rfl,aN8,q]
    ·rw[et,List.all_append,K,bKK,d];rfl
  ·have h1:decide (j<l.length)=false:=ai hc
   obtain rfl:j=l.length:=by omega
   rw[bKp]at K q E
   rw[K,bKI]
   have T:∀x∈l,eA x=true:=bKq.1 K
   have U:∀x∈l,bD x.2:=fun x hx=>(y x hx).1
   have t:(l.map cE).length=l.length:=bKo _
   have sz:rS (l.map cE):=⟨by omega,E⟩
   have V:=xQ (m:=m+15) (z:=((1:Nat):Int)) (by decide) (by decide)
   have W:=aR0 (m:=m+17) (z:=g) (w:=((1:Nat):Int)) (fg.mono (by decide)) (aX.one (by decide))
   cases d:decide (l.length<2)
   case true=>
    simp (disch:=first|rfl|omega)only[S1,aN,aC,aE,aM,aJ,zB,reduceCtorEq,zD,zG,zH,TF,aQ,sn,A,B,i,h1,d]
    refine rb ?_
    unfold vz
    rw[t,ai (by have:=ae d;omega)];rfl
   case false=>
   have h2:2<=l.length:=by have:=af d;omega
   obtain⟨x,hx⟩:∃x,x=l.getD (l.length-1) (false,[]):=⟨_,rfl⟩
   have C:x∈l:=by rw[hx];exact zU (by omega)
   have o:=tT (U x C) (T x C)
   have c:(l.map cE).getD ((l.map cE).length-1) 0=cE x:=by rw[t,hx];simp [show l.length-1<l.length by omega]
   have fz:aX 9 (cE x).natAbs:=by rw[qV];exact bKV (y x C).2.1 (by decide)
   have c1:=aDT (m:=m+15) (z:=cE x) (fz.mono (by decide))
   cases hB:decide ((cE x).sign<=0)
   case true=>
    simp (disch:=first|rfl|omega)only[S1,aN,aC,aE,aM,aJ,zB,reduceCtorEq,zD,zG,zH,TF,aQ,sn,A,B,i,h1,d,pD,pI,←hx,o,c1 _,aDM,hB]
    refine rb ?_
    unfold vz
    rw[c,ai (p:=0<cE x) (by have:=ae hB;have:=Int.sign_nonpos_iff.1 this;omega),bMl];rfl
   case false=>
   have u:0<cE x:=by
    have Q:=af hB
    rcases bMs (cE x) 0 with h4|h4|h4
    ·rw[bL5 h4]at Q;omega
    ·rw[h4]at Q;exact absurd (Int.le_refl 0) Q
    ·exact h4
   cases L:decide (g=((1:Nat):Int))
   case false=>
    simp (disch:=first|rfl|omega)only[S1,aN,aC,aE,aM,aJ,zB,reduceCtorEq,zD,zG,zH,aU,TF,aQ,sn,A,s1,B,f,i,h1,d,pD,pI,←hx,o,c1 _,aDM,hB,V _,W _,L]
    refine rb ?_
    unfold vz
    rw[ai (p:=gz (l.map cE)=1) (fun h=>af L (by rw[q,h])),bMl];rfl
   case true=>
   have H:gz (l.map cE)=1:=by have:=ae L;rw[q]at this;omega
   obtain⟨zs,R⟩:∃zs,zs=l.map cE:=⟨_,rfl⟩
   have X:=aZZ (m:=m+14) (l:=l) (by omega) U T
   rw[←R]at c t sz H X ⊢
   have F:2<=zs.length:=by omega
   obtain⟨g1,g2,g3,g4,g5⟩:=aOz sz F (by rw[c];exact u)
   have a':=xY zs
   have hd:=aBG (dP zs)
   have r2:=aKz (m:=m+8) (l:=dP zs) (g1.ps (by decide) (by omega))
   have r3:=aTP (m:=m+4) g1 g2 (by omega) (by omega) g3 g4
   have I:=aQ2 (b:=dV (dP zs)) g5
   unfold vz
   rw[ak F,c,ak u,ak H,bKI,bKI,bKI]
   simp (disch:=first|rfl|omega)only[S1,aN,aC,aE,aM,aJ,zB,reduceCtorEq,zD,zG,zH,aU,TF,aQ,sn,A,s1,B,f,i,h1,d,pD,pI,←hx,o,c1 _,aDM,hB,V _,W _,L,vJ 25 rfl,X _,r2 _,r3 _]
   cases J:decide ((gF (dP zs) (dV (dP zs))).length=1)
   case false=>
    simp (disch:=first|rfl|omega)only[S1,aC,aE,aM,aJ,zB,reduceCtorEq]
    refine rb ?_
    rw[ai (p:=gF (dP zs) (dV (dP zs))=[1]) (fun h=>af J (I.2 h)),bLH];rfl
   case true=>
   have D:=I.1 (ae J)
   rw[ak D,bKI]
   cases Y:decide (0<=r)
   case false=>
    simp (disch:=first|rfl|omega)only[S1,aC,aE,aM,aJ,zB,reduceCtorEq,zD,zG,zH,TF,aQ,sn,A,B,aAG,Y]
   case true=>
   have c3:=bAi (m:=m) (aJ8 sz F (by rw[c];exact u) D)
   simp (disch:=first|rfl|omega)only[S1,aC,aE,aM,aJ,zB,reduceCtorEq,zD,zG,zH,TF,aQ,sn,A,B,aAG,Y,c3 _,aAz]
theorem bGs(l:List (Bool×List Nat))(r:Int):Can [tF l r]:=Can.cons (bH7 l r) Can.nil
theorem bGg(l:List (Bool×List Nat))(r:Int):bT [tF l r]<=cL:=by simp only[bT,bGK];decide
theorem aJe:bO PG 94 f94 [2] []=true:=by kernel_rfl
theorem aJB{xs:List Nat}(f:xs.length<10000000):VX (m+1) 94 [tW xs]=some (tW (cJ xs),false):=by
 refine bX rfl func94 aJe rfl ?_
 simp only[f94,N1,bC,bF,bH,bG,bE,zB,zG]
 simp (disch:=first|rfl|omega)only[S1,aC,aE,aM,aJ,zB]
 refine .loop (fun n e s=>s=dZ/\n<=xs.length/\e 0=some (tW (xs.take n))/\cJ (xs.take n)=cJ xs) xs.length ⟨rfl,bJE _, ?_,by simp⟩ (dB f) ?_
 ·simp
  rfl
 ·rintro n e s ⟨rfl,hn,d,g⟩
  have a:(xs.take n).length=n:=by simp;omega
  simp (disch:=first|rfl|omega)only[S1,aN,aC,aE,aM,aJ,zB,d,a]
  refine sF (fun h=> ?_) (fun h=> ?_)
  ·have h0:=ae h
   simp (disch:=first|rfl|omega)only[S1,aN,aC,aE,aM,aJ,zB,d,a,h,getD_take]
   refine cM (fun h1=> ?_) (fun h1=> ?_)
   ·have c:=ae h1
    simp (disch:=first|rfl|omega)only[S1,aN,aC,aE,aM,aJ,zB,d,a]
    refine⟨n-1,by omega,by omega, ?_, ?_⟩
    ·rw[bKC,bK7 (by omega)];rfl
    ·rw[←g,show n=(n-1)+1 by omega]
     exact(xJ (by omega) c).symm
   ·have c:=af h1
    simp (disch:=first|rfl|omega)only[S1,zB,reduceCtorEq,d]
    have:=xK (k:=n-1) (by omega) c
    rw[show n-1+1=n by omega]at this
    rw[←g,nA (xs.take n),this,bKC,bNe]
  ·have h0:=af h
   have i:n=0:=by omega
   subst i
   simp (disch:=first|rfl|omega)only[S1,aC,aE,aM,aJ,zB,reduceCtorEq,zG,d]
   rw[←g];rfl
theorem bBp{xs:List Nat}{s:VS}{orc:cP}{n:Nat}(f:xs.length<10000000):fI PG bZ orc (n+1) 94 [tW xs] s=some (tW (cJ xs),s):=by
 refine aG4 rfl func94 aJe rfl ?_
 simp only[f94,N1,bC,bF,bH,bG,bE,zB,zG]
 simp (disch:=first|rfl|omega)only[S1,aH,aC,aE,aM,aJ,zB]
 refine .loop (fun n e s'=>s'=s/\n<=xs.length/\e 0=some (tW (xs.take n))/\cJ (xs.take n)=cJ xs) xs.length ⟨rfl,bJE _, ?_,by simp⟩ (dB f) ?_
 ·simp
  rfl
 ·rintro n e s ⟨rfl,hn,d,g⟩
  have a:(xs.take n).length=n:=by simp;omega
  simp (disch:=first|rfl|omega)only[S1,aN,aC,aE,aM,aJ,zB,d,a]
  refine sF (fun h=> ?_) (fun h=> ?_)
  ·have h0:=ae h
   simp (disch:=first|rfl|omega)only[S1,aN,aC,aE,aM,aJ,zB,d,a,h,getD_take]
   refine cM (fun h1=> ?_) (fun h1=> ?_)
   ·have c:=ae h1
    simp (disch:=first|rfl|omega)only[S1,aN,aC,aE,aM,aJ,zB,d,a]
    refine⟨n-1,by omega,by omega, ?_, ?_⟩
    ·rw[bKC,bK7 (by omega)];rfl
    ·rw[←g,show n=(n-1)+1 by omega]
     exact(xJ (by omega) c).symm
   ·have c:=af h1
    simp (disch:=first|rfl|omega)only[S1,zB,reduceCtorEq,d]
    have:=xK (k:=n-1) (by omega) c
    rw[show n-1+1=n by omega]at this
    rw[←g,nA (xs.take n),this,bKC,bNe]
  ·have h0:=af h
   have i:n=0:=by omega
   subst i
   simp (disch:=first|rfl|omega)only[S1,aC,aE,aM,aJ,zB,reduceCtorEq,zG,d]
   rw[←g];rfl
theorem aAF{xs:List Nat}{s:VS}{orc:cP}(f:xs.length<10000000):fI PG bZ orc lC 94 [tW xs] s=some (tW (cJ xs),s):=bBp (n:=7) f
theorem aY4{zs:List Nat}{k off len:Nat}{s:VS}{orc:cP}{n:Nat}(p:len<10000000)(o:k<s.nxt)(j:s.ob k=⟨0,zs.map wc⟩)(f:off+len<=zs.length):fI PG bZ orc (n+1) 94 [.ow k off len 1] s=some (.ow k off (cJ ((zs.drop off).take len)).length 1,s):=by
 refine aG4 rfl func94 aJe rfl ?_
 simp only[f94,N1,bC,bF,bH,bG,bE,zB,zG]
 simp (disch:=first|rfl|omega)only[S1,aH,aC,aE,aM,aJ,zB]
 refine .loop (fun n e s'=>s'=s/\n<=len/\e 0=some (.ow k off n 1)/\cJ ((zs.drop off).take n)=cJ ((zs.drop off).take len)) len ⟨rfl,bJE _,rfl,rfl⟩ (dB p) ?_
 rintro n e s ⟨rfl,hn,d,g⟩
 simp (disch:=first|rfl|omega)only[S1,aN,aC,aE,aM,aJ,zB,d]
 refine sF (fun h=> ?_) (fun h=> ?_)
 ·have h0:=ae h
  have v:zs.getD (off+(n-1)) 0=(zs.drop off).getD (n-1) 0:=by rw[vH]
  simp (disch:=first|rfl|omega)only[S1,aN,aC,aE,aM,aJ,zB,reduceCtorEq,d,h,j]
  refine cM (fun h1=> ?_) (fun h1=> ?_)
  ·have c:=ae h1
   simp (disch:=first|rfl|omega)only[S1,aN,aC,aE,aM,aJ,zB,d]
   refine⟨n-1,by omega,by omega,rfl, ?_⟩
   rw[←g,show n=(n-1)+1 by omega]
   exact(xJ (by simp;omega) (v ▸ c)).symm
  ·have c:=af h1
   simp (disch:=first|rfl|omega)only[S1,zB,reduceCtorEq,d]
   have:=xK (xs:=zs.drop off) (k:=n-1) (by simp;omega) (v ▸ c)
   rw[show n-1+1=n by omega]at this
   rw[←g,this]
 ·have h0:=af h
  have i:n=0:=by omega
  subst i
  simp only[Nat.lt_irrefl,decide_false]at h ⊢
  simp (disch:=first|rfl|omega)only[S1,aC,aE,aM,aJ,zB,reduceCtorEq,d]
  rw[←g];rfl
theorem bC1{zs:List Nat}{k off len:Nat}{s:VS}{orc:cP}(p:len<10000000)(o:k<s.nxt)(j:s.ob k=⟨0,zs.map wc⟩)(f:off+len<=zs.length):fI PG bZ orc lC 94 [.ow k off len 1] s=some (.ow k off (cJ ((zs.drop off).take len)).length 1,s):=aY4 (n:=7) p o j f
theorem aDk{zs:List Nat}{k len:Nat}{s:VS}{orc:cP}(o:k<s.nxt)(j:s.ob k=⟨0,zs.map wc⟩)(f:zs.length=len)(p:len<10000000):fI PG bZ orc lC 94 [.ow k 0 len 1] s=some (.ow k 0 (cJ zs).length 1,s):=by
 rw[bC1 p o j (by omega),bJV,bJU (by omega)]
theorem aMc:bO PG 79 f79 [4] []=true:=by kernel_rfl
def wE:EC Nat:=⟨fun x=>[wc x],1,by decide,fun _=>rfl,fun x=>Can.cons (aGg x) Can.nil,fun _=>rfl,3,fun _=>by simp only[bT,wc,cV];omega⟩
theorem aB6(xs:List Nat):wE.row xs=xs.map wc:=by
 induction xs with
 |nil=>rfl
 |cons x xs ih=>rw[wE.row_cons,ih];rfl
theorem t_W(xs:List Nat):wE.t xs=tW xs:=by unfold EC.t;rw[aB6];rfl
theorem bHl{s:VS}{k len:Nat}{xs ys:List Nat}(o:k<s.nxt)(j:s.ob k=⟨0,xs.map wc⟩)(f:len=xs.length)(h2:ys≠ [])(n1:xs.length<=10000000)(A:ys.length<=10000000):gT PG 100 s (.ow k 0 len 1) (tW ys)=some (.ow s.nxt 0 (len+ys.length) 1,(s.set k ⟨2,[]⟩).new ((xs++ys).map wc)):=by
 have h:=aCd (E:=wE) (P:=PG) (e:=100) (s:=s) (k:=k) (len:=len) (sz:=1) (l:=xs) (l2:=ys) (y:=wE.t ys) c1 s1 aFG o (by rw[j,aB6]) f rfl h2 n1 A
 rw[aB6,t_W]at h
 exact h
theorem aT1{s:VS}{k len k2:Nat}{xs:List Nat}{y:Nat}(o:k<s.nxt)(j:s.ob k=⟨0,xs.map wc⟩)(f:len=xs.length)(n1:xs.length<=10000000)(q:k2<s.nxt)(u:s.ob k2=⟨0,[.int .u32 (y:Nat)]⟩):gT PG 100 s (.ow k 0 len 1) (.ow k2 0 1 1)=some (.ow s.nxt 0 (len+1) 1,(s.set k ⟨2,[]⟩).new ((xs++[y]).map wc)):=by
 have h:=aCd (E:=wE) (P:=PG) (e:=100) (s:=s) (k:=k) (len:=len) (sz:=1) (l:=xs) (l2:=[y]) (y:= .ow k2 0 1 1) c1 s1 (aFI (E:=wE) (l:=[y]) q (by rw[u,aB6];rfl) (by decide)) o (by rw[j,aB6]) f rfl (fun e=>by cases e) n1 (show(1:Nat)<=10000000 by decide)
 rw[aB6]at h
 exact h
theorem fO:TV.nil.one=true:=rfl
theorem aJM{s:VS}:dJ s [.ag [.b false,.nil]]=some (tI 0,false):=by
 have e:tI 0= .ag [.b false,.em]:=by unfold tI ci;rw[Int.natAbs_zero,gH];rfl
 rw[e];rfl
theorem oB{n:Bool}{k:Nat}(h:(aO k).length<10000000):CC (VX (m+2)) 79 [.b n,tW (aO k)] (tI (sg n k)):=by
 refine .of (Can.cons (cQ.b _) (vR _)) (by simp only[bT,cV,fK];decide) ?_
 refine bX rfl func79 aMc rfl ?_
 simp only[f79,N1,bC,bF,bH,bG,bE,zB,zG]
 simp (disch:=first|rfl|omega)only[S1,aN,aC,aE,aM,aJ,zB,zD,aAF,kJ]
 refine cM (fun e=> ?_) (fun e=> ?_)
 ·have e0:k=0:=by have:=bKB (ae e);exact tA.1 this
  simp (disch:=first|rfl|omega)only[S1,aD,zB,reduceCtorEq,zD,zG,zH,fO,aJM]
  rw[e0];cases n<;>rfl
 ·have e0:=af e
  simp (disch:=first|rfl|omega)only[S1,aD,zB,reduceCtorEq,zD,zG,zH]
  rw[aGI]
  have h1:decide (0<(aO k).length)=true:=ak (by omega)
  rw[h1,bKD]
theorem aZh{n:Nat}(hn:n<18446744073709551616):cJ [n%4294967296,n/4294967296%4294967296]=aO n:=by
 rw[aPL (by omega) (by omega),show n%4294967296+4294967296*(n/4294967296%4294967296)=n by omega]
theorem aW4:bO PG 176 f176 [2] []=true:=by kernel_rfl
theorem aWn{n:Nat}(hn:n<18446744073709551616):VX (m+2) 176 [.int .u64 (n:Nat)]=some (.tp [tW (aO n)],true):=by
 refine bX rfl func176 aW4 rfl ?_
 simp only[f176,N1,bC,bF,bH,bG,bE,zB,zG]
 simp (disch:=first|rfl|omega)only[S1,aC,aE,aM,aJ,aD,zB,zE,zH]
 simp (disch:=first|rfl|omega)only[S1,zB,bL7,List.replicate_zero,bKc,List.map_nil]
 rw[aDk (zs:=[n%4294967296,n/4294967296%4294967296]) (len:=2) bLU rfl rfl (by decide)]
 simp (disch:=first|rfl|omega)only[S1,zB,reduceCtorEq]
 rw[xS bLU rfl,aZh hn]
theorem aD2{n:Nat}(hn:n<18446744073709551616):CC (VX (m+2)) 176 [.int .u64 (n:Nat)] (tW (aO n)):= .fr (Can.cons (cQ.int _ _) Can.nil) (by simp only[bT,cV];decide) (aWn hn)
theorem bBw{y:Nat}(h:y<4294967296):aCo (wc y)=some y:=by
 show(if y<4294967296 then some y else none)=_
 rw[if_pos h]
theorem aFd{xs:List Nat}(hx:bD xs):sK (tW xs)=some xs:=by
 have h:∀ys:List Nat,(∀y∈ys,y<4294967296)->(ys.map wc).mapM aCo=some ys:=fun ys=>by
  induction ys with
  |nil=>intro _;rfl
  |cons y ys ih=>
   intro w
   simp only[bKc,List.mapM_cons,ih fun z B=>w z (List.mem_cons_of_mem _ B),bBw (w y List.mem_cons_self)];rfl
 cases xs with
 |nil=>rfl
 |cons x xs=>exact h (x::xs) hx
theorem aFj{k:Nat}(h:(aO k).length<=2):CC (VX (m+1)) 178 [tW (aO k)] (.int .u64 (k:Nat)):=by
 refine .of (vR _) (by simp only[bT,fK];decide) ?_
 have C:xD 178 [tW (aO k)]=some (.int .u64 (k:Nat),false):=by
  show(sK (tW (aO k))).bind _=_
  rw[aFd (cU k)]
  simp only[Option.bind_some]
  rw[if_pos h,cO]
 show(match xD _ _ with |some r=>some r|none=>_)=_
 rw[C]
theorem aJF{et:fP}{k:bR6}{z:Int}:bU et .neq (.int k z) (.int k z)=some (.b false):=by simp [bU,dX]
theorem yH{et:fP}{k:bR6}{z w:Int}:bU et .gtr (.int k z) (.int k w)=some (.b (decide (w<z))):=by simp [bU,dX]
def sM(z w:Int):Int:=if z<w then-1 else if w<z then 1 else 0
theorem aGz(k:bR6)(z w:Int):Can [.int k z,.int k w]:=Can.cons (cQ.int _ _) (Can.cons (cQ.int _ _) Can.nil)
theorem aGC(k:bR6)(z w:Int):bT [.int k z,.int k w]<=cL:=by simp only[bT,cV];decide
theorem yP(k:bR6)(z:Int):Can [.int k z]:=Can.cons (cQ.int _ _) Can.nil
theorem aAQ(k:bR6)(z:Int):bT [.int k z]<=cL:=by simp only[bT,cV];decide
theorem aXl:bO PG 289 f289 [2] []=true:=by kernel_rfl
theorem aNL{z:Int}:CC (VX (m+1)) 289 [.int .u32 z] (.b false):=by
 refine .of (yP _ _) (aAQ _ _) ?_
 refine bX rfl func289 aXl rfl ?_
 simp only[f289,N1,bC,bF,bH,bG,bE,zB,zG]
 simp (disch:=first|rfl|omega)only[S1,aC,aE,aM,aJ,zB,reduceCtorEq,aJF]
theorem bCJ:bO PG 251 f251 [4,19,16] []=true:=by kernel_rfl
theorem bFf{z w:Int}:VX (m+2) 251 [.int .u32 z,.int .u32 w]=some (.int .i64 (sM z w),false):=by
 refine bX rfl func251 bCJ rfl ?_
 simp only[f251,N1,bC,bF,bH,bG,bE,zB,zG]
 have h1:=aNL (m:=m) (z:=z)
 have h2:=aNL (m:=m) (z:=w)
 unfold sM
 simp (disch:=first|rfl|omega)only[S1,aC,aE,aM,aJ,zB,zD,vJ 289 rfl,h1 _,h2 _,aAz]
 refine cM (fun e=> ?_) (fun e=> ?_)
 ·simp (disch:=first|rfl|omega)only[S1,aC,aE,aM,aJ,zB,reduceCtorEq]
  rw[if_pos (ae e)]
 ·rw[if_neg (af e)]
  simp (disch:=first|rfl|omega)only[S1,zB,yH]
  refine cM (fun e=> ?_) (fun e=> ?_)
  ·simp (disch:=first|rfl|omega)only[S1,aC,aE,aM,aJ,zB,reduceCtorEq]
   rw[if_pos (ae e)];rfl
  ·simp (disch:=first|rfl|omega)only[S1,aC,aE,aM,aJ,zB,reduceCtorEq]
   rw[if_neg (af e)];rfl
theorem bDS{z w:Int}:CC (VX (m+2)) 251 [.int .u32 z,.int .u32 w] (.int .i64 (sM z w)):= .of (aGz _ _ _) (aGC _ _ _) bFf
theorem aWO:bO PG 250 f250 [2] []=true:=by kernel_rfl
theorem aNE{z:Int}:CC (VX (m+1)) 250 [.int .i64 z] (.b false):=by
 refine .of (yP _ _) (aAQ _ _) ?_
 refine bX rfl func250 aWO rfl ?_
 simp only[f250,N1,bC,bF,bH,bG,bE,zB,zG]
 simp (disch:=first|rfl|omega)only[S1,aC,aE,aM,aJ,zB,reduceCtorEq,aJF]
theorem bCs:bO PG 179 f179 [4,19,16] []=true:=by kernel_rfl
theorem bEx{z w:Int}:VX (m+2) 179 [.int .i64 z,.int .i64 w]=some (.int .i64 (sM z w),false):=by
 refine bX rfl func179 bCs rfl ?_
 simp only[f179,N1,bC,bF,bH,bG,bE,zB,zG]
 have h1:=aNE (m:=m) (z:=z)
 have h2:=aNE (m:=m) (z:=w)
 unfold sM
 simp (disch:=first|rfl|omega)only[S1,aC,aE,aM,aJ,zB,zD,vJ 250 rfl,h1 _,h2 _,aAz]
 refine cM (fun e=> ?_) (fun e=> ?_)
 ·simp (disch:=first|rfl|omega)only[S1,aC,aE,aM,aJ,zB,reduceCtorEq]
  rw[if_pos (ae e)]
 ·rw[if_neg (af e)]
  simp (disch:=first|rfl|omega)only[S1,zB,yH]
  refine cM (fun e=> ?_) (fun e=> ?_)
  ·simp (disch:=first|rfl|omega)only[S1,aC,aE,aM,aJ,zB,reduceCtorEq]
   rw[if_pos (ae e)];rfl
  ·simp (disch:=first|rfl|omega)only[S1,aC,aE,aM,aJ,zB,reduceCtorEq]
   rw[if_neg (af e)];rfl
theorem aQo{z w:Int}:CC (VX (m+2)) 179 [.int .i64 z,.int .i64 w] (.int .i64 (sM z w)):= .of (aGz _ _ _) (aGC _ _ _) bEx
theorem bAI:bO PG 85 f85 [2] []=true:=by kernel_rfl
theorem bCk{x:Bool×List Nat}(h:x.2.length<10000000):VX (m+1) 85 [tX x]=some (.int .i64 (if (cJ x.2).length=0 then 0 else if x.1 then-1 else 1),false):=by
 obtain⟨n,xs⟩:=x
 refine bX rfl func85 bAI rfl ?_
 simp only[f85,N1,bC,bF,bH,bG,bE,zB,zG]
 simp (disch:=first|rfl|omega)only[S1,aN,aC,aE,aM,aJ,zB,reduceCtorEq,zD,zG,zH,rY,aQ,aAF]
 refine cM (fun e=> ?_) (fun e=> ?_)
 ·simp (disch:=first|rfl|omega)only[S1,aC,aE,aM,aJ,zB,reduceCtorEq]
  rw[if_pos (ae e)];rfl
 ·rw[if_neg (af e)]
  cases n<;>simp (disch:=first|rfl|omega)only[S1,aC,aE,aM,aJ,zB,reduceCtorEq,zD,zG,zH,aQ]<;>rfl
theorem bIR(z:Int):tI z=tX (decide (z<0),aO z.natAbs):=rfl
theorem aC4{z:Int}(h:aX 9000000 z.natAbs):CC (VX (m+1)) 85 [tI z] (.int .i64 z.sign):=by
 refine .of (sD z) (sJ z) ?_
 rw[bIR,bCk (bK9 h.len (by decide))]
 simp only[kJ,aBj]
 congr 2
 by_cases h0:z=0
 ·rw[if_pos h0,h0];rfl
 ·rw[if_neg h0]
  by_cases h1:z<0
  ·rw[ak h1,if_pos rfl,bL5 h1]
  ·rw[ai h1,bL3 (by omega)];rfl
theorem aPQ(x y:Nat):sM (x:Int) (y:Int)=if x<y then-1 else if y<x then 1 else 0:=by
 unfold sM
 by_cases h1:x<y
 ·rw[if_pos h1,if_pos (by omega)]
 ·rw[if_neg h1,if_neg (by omega)]
  by_cases h2:y<x
  ·rw[if_pos h2,if_pos (by omega)]
  ·rw[if_neg h2,if_neg (by omega)]
theorem aWw:bO PG 180 f180 [4,31,20] []=true:=by kernel_rfl
theorem aWK{xs ys:List Nat}(hx:xs.length<10000000)(lx:bD xs)(ly:bD ys):VX (m+3) 180 [tW xs,tW ys]=some (.int .i64 (nQ xs ys),false):=by
 refine bX rfl func180 aWw rfl ?_
 simp only[f180,N1,bC,bF,bH,bG,bE,zB,zG]
 simp (disch:=first|rfl|omega)only[S1,aN,aC,aE,aM,aJ,zB,zD]
 refine cM (fun h=> ?_) (fun h=> ?_)
 ·have h':xs.length≠ys.length:=by simpa using h
  have c1:=aQo (m:=m) (z:=(xs.length:Nat)) (w:=(ys.length:Nat))
  simp (disch:=first|rfl|omega)only[S1,aN,zB,reduceCtorEq,vJ 179 rfl,c1 _]
  rw[aPQ]
  by_cases h1:xs.length<ys.length
  ·rw[if_pos h1,aMd h1]
  ·rw[if_neg h1,if_pos (by omega),aN1 (by omega)]
 ·have h':xs.length=ys.length:=by simpa using h
  simp (disch:=first|rfl|omega)only[S1,aN,aC,aE,aM,aJ,zB]
  refine .loop (fun n e s=>s=dZ/\n<=xs.length/\e 0=some (tW xs)/\e 1=some (tW ys)/\e 5=some (.int .i64 (iz n))/\xs.drop n=ys.drop n) xs.length ?_ (dB hx) ?_
  ·simp (disch:=first|rfl|omega)only[S1,zB]
   simp [h']
  ·rintro n e s ⟨rfl,hn,e0,b,c,g⟩
   simp (disch:=first|rfl|omega)only[S1,aC,aE,aM,aJ,zB,c]
   refine cM (fun h=> ?_) (fun h=> ?_)
   ·have h0:=ae h
    have f:n-1<xs.length:=by omega
    have a:xs.drop (n-1+1)=ys.drop (n-1+1):=by rw[show n-1+1=n by omega];exact g
    simp (disch:=first|rfl|omega)only[S1,zB,e0,b,c]
    refine cM (fun h1=> ?_) (fun h1=> ?_)
    ·have d:xs.getD (n-1) 0≠ys.getD (n-1) 0:=by simpa using h1
     have c1:=bDS (m:=m) (z:=(xs.getD (n-1) 0:Nat)) (w:=(ys.getD (n-1) 0:Nat))
     simp (disch:=first|rfl|omega)only[S1,zB,reduceCtorEq,e0,b,c,c1 _]
     rw[aPQ]
     by_cases h2:xs.getD (n-1) 0<ys.getD (n-1) 0
     ·rw[if_pos h2,aN5 lx h' f a h2]
     ·rw[if_neg h2,if_pos (by omega),aNr ly h' f a (by omega)]
    ·have d:xs.getD (n-1) 0=ys.getD (n-1) 0:=by simpa using h1
     simp (disch:=first|rfl|omega)only[S1,aC,aE,aM,aJ,zB,e0,b,c]
     exact⟨n-1,by omega,by omega,rfl,by rw[aAk xs f,aAk ys (by omega),a,d]⟩
   ·have h0:=af h
    obtain rfl:n=0:=by omega
    simp (disch:=first|rfl|omega)only[S1,aC,aE,aM,aJ,zB,reduceCtorEq,zG]
    have:xs=ys:=g
    subst this
    rw[aNn];rfl
theorem aBy{a b:Nat}(c:(aO a).length<10000000):CC (VX (m+3)) 180 [tW (aO a),tW (aO b)] (.int .i64 (if a<b then-1 else if b<a then 1 else 0)):= .of (vT _ _) (by simp only[bT,fK];decide) (by rw[aWK c (cU _) (cU _),aHY])
theorem eSl:fA PG 45= .sli:=by kernel_rfl
theorem bFw{x:Nat}{xs:List Nat}:bU .sli .eql (tW (x::xs)) .nil=some (.b false):=rfl
theorem aXP:bO PG 93 f93 [2] []=true:=by kernel_rfl
theorem aFE{xs:List Nat}(h:xs.length<=10000000):CC (VX (m+1)) 93 [tW xs] (tW xs):=by
 cases xs with
 |nil=>exact .of (vR _) (by simp only[bT,fK];decide) rfl
 |cons x xs=>
  refine .fr (vR _) (by simp only[bT,fK];decide) ?_
  refine bX rfl func93 aXP rfl ?_
  simp only[f93,N1,bC,bF,bH,bG,bE,zB,zG]
  simp (disch:=first|rfl|omega)only[S1,aK,aC,aE,aM,aJ,aD,zB,zH,eSl,bFw,aB9]
  rw[bHl (xs:=[]) (len:=0) bLU rfl rfl (fun e=>by cases e) (by decide) h]
  simp (disch:=first|rfl|omega)only[S1,zB,reduceCtorEq]
  rw[aFU (k:=1) (off:=0) (len:=xs.length+1) (zs:=x::xs) (show 1<2 by decide) rfl (by rw[bJN];omega),bJV,bJU (by rw[bJN];exact bJE _)]
theorem pC{xs:List Nat}(d:xs.length<10000000):CC (VX (m+1)) 94 [tW xs] (tW (cJ xs)):= .of (vR _) (by simp only[bT,fK];decide) (aJB d)
theorem aCb{z:Int}{k:Nat}(h:aX k z.natAbs)(f:k<10000000):(aO z.natAbs).length<10000000:=bK9 h.len f
theorem bDy:bO PG 275 f275 [2] []=true:=by kernel_rfl
theorem aSC{z:Int}(h:aX 9000000 z.natAbs):VX (m+3) 275 [tI z]=some (tI (-z),false):=by
 have c1:=aFE (m:=m+1) (xs:=aO z.natAbs) (bKb (aCb h (by decide)))
 have c2:=oB (m:=m) (n:= !decide (z<0)) (k:=z.natAbs) (aCb h (by decide))
 rw[aSW]at c2
 have c0:=pC (m:=m+1) (xs:=aO z.natAbs) (aCb h (by decide))
 rw[kJ]at c0
 refine bX rfl func275 bDy rfl ?_
 simp only[f275,N1,bC,bF,bH,bG,bE,zB,zG]
 simp (disch:=first|rfl|omega)only[S1,zB,reduceCtorEq,zD,zG,zH,TI,aQ,c0 _,c1 _,c2 _]
theorem aSM{z:Int}(h:aX 9000000 z.natAbs):CC (VX (m+3)) 275 [tI z] (tI (-z)):= .of (sD z) (sJ z) (aSC h)
theorem bAy:bO PG 252 f252 [2] []=true:=by kernel_rfl
theorem bFF{z:Int}(h:aX 9000000 z.natAbs):VX (m+3) 252 [tI z]=some (tI z,false):=by
 have c1:=aFE (m:=m+1) (xs:=aO z.natAbs) (bKb (aCb h (by decide)))
 have c2:=oB (m:=m) (n:=decide (z<0)) (k:=z.natAbs) (aCb h (by decide))
 rw[aG5]at c2
 have c0:=pC (m:=m+1) (xs:=aO z.natAbs) (aCb h (by decide))
 rw[kJ]at c0
 refine bX rfl func252 bAy rfl ?_
 simp only[f252,N1,bC,bF,bH,bG,bE,zB,zG]
 simp (disch:=first|rfl|omega)only[S1,zB,reduceCtorEq,zD,zG,zH,TI,aQ,c0 _,c1 _,c2 _]
theorem aQF{z:Int}(h:aX 9000000 z.natAbs):CC (VX (m+3)) 252 [tI z] (tI z):= .of (sD z) (sJ z) (bFF h)
theorem aPj{zs:List Nat}(h:bD zs)(F:(aO (val zs)).length=zs.length):zs=aO (val zs):=by
 have h1:=iI h
 have h2:=nA zs
 rw[h1,F,bKp]at h2
 exact h2.symm
def OwW(s:VS)(v:TV)(zs:List Nat):Prop:=∃k,v= .ow k 0 zs.length 1/\k<s.nxt/\s.ob k=⟨0,zs.map wc⟩
theorem OwW.step{s:VS}{v:TV}{zs:List Nat}(h:OwW s v zs)(x:Nat)(n1:zs.length<=10000000):∃v' s',gT PG 100 (s.new [.int .u32 (x:Nat)]) v (.ow s.nxt 0 1 1)=some (v',s')/\OwW s' v' (zs++[x]):=by
 obtain⟨k,rfl,D,G⟩:=h
 refine⟨_,_,aT1 (s:=s.new [.int .u32 (x:Nat)]) (k:=k) (xs:=zs) (y:=x) (k2:=s.nxt) (Nat.lt_succ_of_lt D) ((if_neg (by omega)).trans G) rfl n1 (bJT _) (if_pos rfl),s.nxt+1, ?_,bJT _,if_pos rfl⟩
 rw[bJW];rfl
theorem OwW.ret{s:VS}{v:TV}{zs:List Nat}(h:OwW s v zs):dJ s [v]=some (.tp [tW zs],true):=by
 obtain⟨k,rfl,D,G⟩:=h
 rw[aFU D G (by omega),bJV,bKp]
theorem aIk{zs:List Nat}{w:Nat}(h:bD zs)(O:w<4294967296):bD (zs++[w]):=fun x hx=>by
 rcases List.mem_append.1 hx with hx|hx
 ·exact h x hx
 ·rw[bKF.1 hx];exact O
theorem bBa{xs ys zs:List Nat}{k c:Nat}(F:zs.length=k)(h:val zs+4294967296^k*c=val (xs.take k)+val (ys.take k)):val (zs++[(c+xs.getD k 0+ys.getD k 0)%4294967296])+4294967296^(k+1)*((c+xs.getD k 0+ys.getD k 0)/4294967296)=val (xs.take (k+1))+val (ys.take (k+1)):=by
 rw[aDb,F,nZ,nZ,bJX]
 have p:val [(c+xs.getD k 0+ys.getD k 0)%4294967296]=(c+xs.getD k 0+ys.getD k 0)%4294967296:=by simp [val]
 rw[p]
 have P:=bL2 (c+xs.getD k 0+ys.getD k 0) 4294967296
 generalize xs.getD k 0=x at*
 generalize ys.getD k 0=y at*
 generalize (c+x+y)%4294967296=r at*
 generalize (c+x+y)/4294967296=q at*
 generalize 4294967296^k=B at*
 have Q:B*(4294967296*q+r)=B*c+B*x+B*y:=by rw[P];rw[bK4,bK4]
 rw[bK4]at Q
 have X:B*4294967296*q=B*(4294967296*q):=bK1 _ _ _
 omega
theorem bAU:bO PG 215 f215 [4,51,34,20,23,21,22] []=true:=by kernel_rfl
theorem aQ7{a b:Nat}(hx:(aO a).length<9000000)(H:(aO b).length<9000000):VX (m+2) 215 [tW (aO a),tW (aO b)]=some (.tp [tW (aO (a+b))],true):=by
 have key:∀ {a b:Nat},(aO a).length<9000000->(aO b).length<=(aO a).length->True:=fun _ _=>trivial
 refine bX rfl func215 bAU rfl ?_
 simp only[f215,N1,bC,bF,bH,bG,bE,zB,zG]
 simp (disch:=first|rfl|omega)only[S1,aN,aC,aE,aM,aJ,zB,zD]
 have L:∃N c d,(aO c).length=N/\(aO d).length<=N/\N<9000000/\c+d=a+b/\(c=(if (aO a).length<(aO b).length then b else a))/\(d=(if (aO a).length<(aO b).length then a else b)):=by
  by_cases h:(aO a).length<(aO b).length
  ·exact⟨_,b,a,rfl,by omega,H,bL1 _ _,(if_pos h).symm,(if_pos h).symm⟩
  ·exact⟨_,a,b,rfl,by omega,hx,rfl,(if_neg h).symm,(if_neg h).symm⟩
 obtain⟨N,c,d,hc,R,L,hs,ec,ed⟩:=L
 rw[←hs]
 refine cM (fun h=> ?A) (fun h=> ?B)
 case' A=>rw[if_pos (ae h)]at ec ed
 case' B=>rw[if_neg (af h)]at ec ed
 all_goals
  subst ec ed
  have h1:N+1<=10000000:=by omega
  simp (disch:=first|rfl|omega)only[S1,aN,aC,aE,aM,aJ,zB,zH,aB9,hc]
  refine .up (fun k e s=>∃(v:TV) (zs:List Nat) (b:Nat),e 0=some (tW (aO c))/\e 1=some (tW (aO d))/\e 5=some v/\e 6=some (.int .u64 (b:Nat))/\e 20=some (tW (aO c))/\e 21=some (.int .i64 (N:Nat))/\e 22=some (.int .i64 (k:Nat))/\OwW s v zs/\zs.length=k/\b<=1/\bD zs/\val zs+4294967296^k*b=val ((aO c).take k)+val ((aO d).take k)) N ?_ (dB (by omega)) ?_
  ·refine⟨.ow 0 0 0 1,[],0, ?_, ?_, ?_, ?_, ?_, ?_, ?_,⟨0,rfl,Nat.one_pos,rfl⟩,rfl,bJJ _,bD.nil, ?_⟩<;>first|(simp (disch:=first|rfl|omega)only[S1,zB];done)|simp [val]
  ·rintro k e s D ⟨v,zs,b,e0,p,u,z,g,i,j,how,zl,Y,zL,t⟩
   have lc:=cU c
   have ld:=cU d
   by_cases o:k<N
   ·have g1:decide (k<N)=true:=ak o
    have S:=lc.getD k
    have T:=ld.getD k
    have I:=bBa zl t
    obtain⟨v',s',ea,f⟩:=how.step ((b+(aO c).getD k 0+(aO d).getD k 0)%4294967296) (by omega)
    have U:k<(aO c).length:=by omega
    cases E:decide (k<(aO d).length)
    ·have V:(aO d).getD k 0=0:=qQ (by have:=af E;omega)
     rw[V,bKR]at I ea f
     simp (disch:=first|rfl|omega)only[S1,aK,aN,aC,aE,aM,aJ,aD,zB,zE,zH,e0,p,u,z,g,i,j,g1,E,aCK,ea]
     exact⟨o,v',_,_,rfl,rfl,f,by simp [zl],by omega,aIk zL (bK6 _ (by decide)),I⟩
    ·have W:=ae E
     simp (disch:=first|rfl|omega)only[S1,aK,aN,aC,aE,aM,aJ,aD,zB,zE,zH,e0,p,u,z,g,i,j,g1,E,aCK,ea]
     exact⟨o,v',_,_,rfl,rfl,f,by simp [zl],by omega,aIk zL (bK6 _ (by decide)),I⟩
   ·have g1:decide (k<N)=false:=ai o
    obtain rfl:k=N:=by omega
    simp (disch:=first|rfl|omega)only[S1,aC,aE,aM,aJ,zB,z,i,j,g1]
    rw[bJU (by omega),bJU R,cO,cO]at t
    refine cM (fun hB=> ?_) (fun hB=> ?_)
    ·have J:b=1:=by have:=ae hB;omega
     subst J
     obtain⟨v',s',ea,f⟩:=how.step (1%4294967296) (by omega)
     simp (disch:=first|rfl|omega)only[S1,aK,aD,zB,reduceCtorEq,zE,zG,zH,u,z,aCK,ea]
     have l:val (zs++[1%4294967296])=c+d:=by
      rw[aDb,zl,show val [1%4294967296]=1 by decide];exact t
     have M:=aIk zL (show 1%4294967296<4294967296 by decide)
     have n:(aO (c+d)).length=(zs++[1%4294967296]).length:=by
      have g2:=jE M
      rw[l]at g2
      have g3:=lK g2
      have g4:=jE (cU (c+d))
      rw[cO]at g4
      rw[bJW]at g3 ⊢
      simp only[bJN,List.length_nil]at g3 ⊢
      rcases bJS (aO (c+d)).length (k+1)with g5|g5
      ·have:=bK2 (show 0<4294967296 by decide) (show(aO (c+d)).length<=k by omega)
       omega
      ·omega
     have C:=aPj M (by rw[l];exact n)
     rw[l]at C
     rw[f.ret,C]
    ·have K:b=0:=by have:=af hB;omega
     subst K
     rw[bLz,bKR]at t
     have n:(aO (c+d)).length=zs.length:=by
      have g2:=jE zL
      rw[t]at g2
      have g3:=lK g2
      have g4:(aO c).length<=(aO (c+d)).length:=oX (Nat.le_add_right c d)
      omega
     have C:=aPj zL (by rw[t];exact n)
     rw[t]at C
     simp (disch:=first|rfl|omega)only[S1,zB,reduceCtorEq,zG,u]
     rw[how.ret,C]
theorem aRb{a b:Nat}(hx:(aO a).length<9000000)(H:(aO b).length<9000000):CC (VX (m+2)) 215 [tW (aO a),tW (aO b)] (tW (aO (a+b))):= .fr (vT _ _) (by simp only[bT,fK];decide) (aQ7 hx H)
theorem aBY{et:fP}{x y:Nat}(hx:x<18446744073709551616)(B:y<18446744073709551616):bU et .sub (.int .u64 (x:Int)) (.int .u64 (y:Int))=some (.int .u64 (((x+18446744073709551616-y)%18446744073709551616:Nat):Int)):=by
 simp only[bU,dX,if_true]
 rw[aAg]
 congr 2
 omega
theorem aYc:bO PG 216 f216 [4,27,16] []=true:=by kernel_rfl
theorem bAJ{xs ys:List Nat}(hx:xs.length<9000000)(d:ys.length<=xs.length)(lx:bD xs)(ly:bD ys)(v:val ys<=val xs):VX (m+2) 216 [tW xs,tW ys]=some (.tp [tW (aO (val xs-val ys))],true):=by
 refine bX rfl func216 aYc rfl ?_
 simp only[f216,N1,bC,bF,bH,bG,bE,zB,zG]
 simp (disch:=first|rfl|omega)only[S1,aN,aC,aE,aM,aJ,zB,zD]
 refine .up (fun k e s=>∃(b:Nat) (zs:List Nat),s.nxt=1/\s.ob 0=⟨0,zs.map wc⟩/\e 0=some (tW xs)/\e 1=some (tW ys)/\e 5=some (.ow 0 0 xs.length 1)/\e 6=some (.int .u64 (b:Nat))/\e 13=some (tW xs)/\e 14=some (.int .i64 (xs.length:Nat))/\e 15=some (.int .i64 (k:Nat))/\b<=1/\zs.length=xs.length/\bD zs/\val (zs.take k)+val (ys.take k)=val (xs.take k)+4294967296^k*b) xs.length ?_ (dB (by omega)) ?_
 ·refine⟨0,bJL xs.length 0, ?_⟩
  simp (disch:=first|rfl|omega)only[S1,zB,zH]
  simp [val,qO]
 ·rintro k e s C ⟨b,zs,sn,so,e0,n,o,p,f,g,h,w,zl,zL,j⟩
  by_cases hc:k<xs.length
  ·have g1:decide (k<xs.length)=true:=ak hc
   have h1:=lx.getD k
   have h2:=ly.getD k
   have q:=aM9 (zs:=zs) (by omega) h1 h2 w j
   have a:bD (zs.set k ((xs.getD k 0+4294967296-ys.getD k 0-b)%4294967296)):=jQ zL (bK6 _ (by decide))
   have c:=aBY (et:=fA PG 103) (x:=xs.getD k 0) (y:=b) (by omega) (by omega)
   have z:(xs.getD k 0+18446744073709551616-b)%18446744073709551616<18446744073709551616:=bK6 _ (by decide)
   have sh63:∀x:Nat,bU (fA PG 103) .shr (.int .u64 (x:Int)) (.int .u64 ((63:Nat):Int))=some (.int .u64 ((x/2^63:Nat):Int)):=fun x=>yG (by decide)
   cases l:decide (k<ys.length)
   ·have r:ys.getD k 0=0:=qQ (by have:=af l;omega)
    rw[r]at q a
    have t:(xs.getD k 0+18446744073709551616-b)%18446744073709551616%4294967296=(xs.getD k 0+4294967296-0-b)%4294967296:=by omega
    have u:(xs.getD k 0+18446744073709551616-b)%18446744073709551616/2^63=1-(xs.getD k 0+4294967296-0-b)/4294967296:=by
     rw[show(2:Nat)^63=9223372036854775808 from rfl];omega
    simp (disch:=first|rfl|omega)only[S1,aN,aC,aE,aM,aJ,zB,zG,e0,n,o,p,f,g,h,sn,so,g1,l,c,sh63,t,u]
    exact⟨hc,_,_,rfl,rfl,by omega,by simp [zl],a,q⟩
   ·have A:=ae l
    have i:=aBY (et:=fA PG 103) (x:=(xs.getD k 0+18446744073709551616-b)%18446744073709551616) (y:=ys.getD k 0) z (by omega)
    have t:((xs.getD k 0+18446744073709551616-b)%18446744073709551616+18446744073709551616-ys.getD k 0)%18446744073709551616%4294967296=(xs.getD k 0+4294967296-ys.getD k 0-b)%4294967296:=by omega
    have u:((xs.getD k 0+18446744073709551616-b)%18446744073709551616+18446744073709551616-ys.getD k 0)%18446744073709551616/2^63=1-(xs.getD k 0+4294967296-ys.getD k 0-b)/4294967296:=by
     rw[show(2:Nat)^63=9223372036854775808 from rfl];omega
    simp (disch:=first|rfl|omega)only[S1,aN,aC,aE,aM,aJ,zB,zG,e0,n,o,p,f,g,h,sn,so,g1,l,c,i,sh63,t,u]
    exact⟨hc,_,_,rfl,rfl,by omega,by simp [zl],a,q⟩
  ·have g1:decide (k<xs.length)=false:=ai hc
   obtain rfl:k=xs.length:=by omega
   rw[bJU (by omega),bJU d,bKp]at j
   have r:=jE zL
   rw[zl]at r
   have hb0:b=0:=by
    rcases bJS 0 b with hb0|hb0
    ·have:b=1:=by omega
     subst this;omega
    ·omega
   subst hb0
   simp (disch:=first|rfl|omega)only[S1,zB,o,g,h,g1]
   rw[aDk (zs:=zs) (by omega) so zl (by omega)]
   simp (disch:=first|rfl|omega)only[S1,zB,reduceCtorEq]
   rw[xS (by omega) so,iI zL,show val zs=val xs-val ys by omega]
theorem aJ2{xs ys:List Nat}(hx:xs.length<9000000)(d:ys.length<=xs.length)(lx:bD xs)(ly:bD ys)(v:val ys<=val xs):CC (VX (m+2)) 216 [tW xs,tW ys] (tW (aO (val xs-val ys))):= .fr (Can.cons (jF _) (Can.cons (jF _) Can.nil)) (by simp only[bT,fK];decide) (bAJ hx d lx ly v)
theorem aMP:bO PG 217 f217 [4,32,35,33,34,25,28,26,27,18] []=true:=by kernel_rfl
theorem bB4{xs ys:List Nat}(hx:xs.length<4000000)(t:ys.length<4000000)(v:xs≠ [])(w:ys≠ [])(lx:bD xs)(ly:bD ys):VX (m+2) 217 [tW xs,tW ys]=some (.tp [tW (aO (val xs*val ys))],true):=by
 have z1:decide (xs.length=0)=false:=ai (fun h=>v (bKB h))
 have z2:decide (ys.length=0)=false:=ai (fun h=>w (bKB h))
 refine bX rfl func217 aMP rfl ?_
 simp only[f217,N1,bC,bF,bH,bG,bE,zB,zG]
 simp (disch:=first|rfl|omega)only[S1,aN,aC,aE,aM,aJ,zB,zD,z1,z2]
 refine .up (fun k e s=>∃zs:List Nat,s.nxt=1/\s.ob 0=⟨0,zs.map wc⟩/\e 0=some (tW xs)/\e 1=some (tW ys)/\e 5=some (.ow 0 0 (xs.length+ys.length) 1)/\e 25=some (tW xs)/\e 26=some (.int .i64 (xs.length:Nat))/\e 27=some (.int .i64 (k:Nat))/\zs.length=xs.length+ys.length/\bD zs/\(∀j,k+ys.length<=j->zs.getD j 0=0)/\val zs=val (xs.take k)*val ys) xs.length ?_ (dB (by omega)) ?_
 ·refine⟨bJL (xs.length+ys.length) 0, ?_⟩
  simp (disch:=first|rfl|omega)only[S1,zB]
  simp only[qO,aHK,xI,val]
  simp
 ·rintro i e s D ⟨zs,sn,so,e0,n,o,a,b,d,zl,zL,g,f⟩
  by_cases h0:i<xs.length
  ·have g1:decide (i<xs.length)=true:=ak h0
   have h1:=lx.getD i
   simp (disch:=first|rfl|omega)only[S1,aN,aC,aE,aM,aJ,zB,n,a,b,d,g1]
   refine .up (fun k e s=>∃(c:Nat) (zs:List Nat),s.nxt=1/\s.ob 0=⟨0,zs.map wc⟩/\e 0=some (tW xs)/\e 1=some (tW ys)/\e 5=some (.ow 0 0 (xs.length+ys.length) 1)/\e 6=some (.int .i64 (i:Nat))/\e 7=some (.int .u32 (xs.getD i 0:Nat))/\e 8=some (.int .u64 (c:Nat))/\e 25=some (tW xs)/\e 26=some (.int .i64 (xs.length:Nat))/\e 27=some (.int .i64 (i:Nat))/\e 32=some (tW ys)/\e 33=some (.int .i64 (ys.length:Nat))/\e 34=some (.int .i64 (k:Nat))/\c<4294967296/\zs.length=xs.length+ys.length/\bD zs/\(∀j,i+ys.length<=j->zs.getD j 0=0)/\val zs+4294967296^(i+k)*c=val (xs.take i)*val ys+4294967296^i*xs.getD i 0*val (ys.take k)) ys.length ?_ (dB (by omega)) ?_
   ·refine⟨0,zs, ?_⟩
    simp (disch:=first|rfl|omega)only[S1,zB,zG,e0,n,o,a,b,d,sn,so]
    simp only[zl,zL,f,true_and,val,bLz,bKR,and_true]
    exact g
   ·rintro k e s E ⟨c,zs,sn,so,e0,n,o,y,z,A,a,b,d,p,q,r,hc,zl,zL,g,f⟩
    by_cases l:k<ys.length
    ·have g2:decide (k<ys.length)=true:=ak l
     have t:=ly.getD k
     have x:=zL.getD (i+k)
     obtain⟨F,C⟩:=aLP hc x h1 t
     have u:=aM0 (by omega) f
     simp (disch:=first|rfl|omega)only[S1,aC,aE,aM,aJ,zB,reduceCtorEq,zG,e0,n,o,y,z,A,a,b,d,p,q,r,sn,so,g2]
     rw[show c+zs.getD (i+k) 0+xs.getD i 0*ys.getD k 0=c+(xs.getD i 0*ys.getD k 0+zs.getD (i+k) 0) by omega]at u C
     refine⟨l,_,_,rfl,rfl, ?_,by simp [zl],jQ zL (bK6 _ (by decide)),fun j B=> ?_,u⟩
     ·omega
     ·rw[getD_set_ne (by omega)];exact g j B
    ·have g2:decide (k<ys.length)=false:=ai l
     obtain rfl:k=ys.length:=by omega
     have u:=aM5 h0 zl (g _ (bJE _)) f
     simp (disch:=first|rfl|omega)only[S1,aN,aC,aE,aM,aJ,zB,zC,reduceCtorEq,zG,e0,n,o,y,A,a,b,d,q,r,sn,so,g2]
     refine⟨h0,_,rfl,by simp [zl],jQ zL ?_,fun j B=> ?_, ?_⟩
     ·exact bK6 _ (by decide)
     ·rw[getD_set_ne (by omega)];exact g j (by omega)
     ·rw[bKg hc];exact u
  ·have g1:decide (i<xs.length)=false:=ai h0
   obtain rfl:i=xs.length:=by omega
   rw[bKp]at f
   simp (disch:=first|rfl|omega)only[S1,zB,o,b,d,g1]
   rw[aDk (zs:=zs) (by omega) so zl (by omega)]
   simp (disch:=first|rfl|omega)only[S1,zB,reduceCtorEq]
   rw[xS (by omega) so,iI zL,f]
theorem bAZ{xs ys:List Nat}(hx:xs.length<4000000)(t:ys.length<4000000)(lx:bD xs)(ly:bD ys):CC (VX (m+2)) 217 [tW xs,tW ys] (tW (aO (val xs*val ys))):=by
 by_cases h0:xs=[]\/ys=[]
 ·have g:val xs*val ys=0:=by rcases h0 with rfl|rfl<;>simp [val]
  rw[g,gH]
  refine .of (vT _ _) (by simp only[bT,fK];decide) ?_
  refine bX rfl func217 aMP rfl ?_
  simp only[f217,N1,bC,bF,bH,bG,bE,zB,zG]
  by_cases h1:xs=[]
  ·subst h1
   simp (disch:=first|rfl|omega)only[S1,aN,aC,aE,aM,aJ,zB,reduceCtorEq,zD]
   rfl
  ·have z1:decide (xs.length=0)=false:=ai (fun h=>h1 (bKB h))
   have h2:ys=[]:=h0.resolve_left h1
   subst h2
   simp (disch:=first|rfl|omega)only[S1,aN,aC,aE,aM,aJ,zB,reduceCtorEq,zD,z1]
   rfl
 ·exact .fr (vT _ _) (by simp only[bT,fK];decide) (bB4 hx t (fun h=>h0 (.inl h)) (fun h=>h0 (.inr h)) lx ly)
theorem aWa:bO PG 86 f86 [2] []=true:=by kernel_rfl
theorem aMB{z:Int}(h1: -9223372036854775808<=z)(h2:z<9223372036854775808):VX (m+3) 86 [.int .i64 z]=some (tI z,false):=by
 have j:=aD2 (m:=m) (n:=z.natAbs) (by omega)
 have u:(aO z.natAbs).length<10000000:=bK9 (lK (k:=2) (by show z.natAbs<18446744073709551616;omega)) (by decide)
 have hs:=oB (m:=m) (n:=decide (z<0)) (k:=z.natAbs) u
 rw[aG5]at hs
 refine bX rfl func86 aWa rfl ?_
 simp only[f86,N1,bC,bF,bH,bG,bE,zB,zG]
 simp (disch:=first|rfl|omega)only[S1,aC,aE,aM,aJ,zB,sB]
 refine cM (fun hc=> ?_) (fun hc=> ?_)
 ·have h0:z<0:=ae hc
  have p:IntKind.u64.wrap z=((18446744073709551616-z.natAbs:Nat):Int):=by rw[aAg];omega
  have v:=aOR (n:=z.natAbs) (by omega) (by omega)
  rw[p]
  simp (disch:=first|rfl|omega)only[S1,aC,aE,aM,aJ,zB,reduceCtorEq,zD,zG,zH,TI,v,sB,vJ 176 rfl,j _,vJ 79 rfl,hs _]
 ·have h0:¬z<0:=af hc
  have p:IntKind.u64.wrap z=((z.natAbs:Nat):Int):=by rw[aAg];omega
  rw[p]
  simp (disch:=first|rfl|omega)only[S1,aC,aE,aM,aJ,zB,reduceCtorEq,zD,zG,zH,TI,sB,vJ 176 rfl,j _,vJ 79 rfl,hs _]
theorem aD8{z:Int}(h1: -9223372036854775808<=z)(h2:z<9223372036854775808):CC (VX (m+3)) 86 [.int .i64 z] (tI z):= .of (yP _ _) (aAQ _ _) (aMB h1 h2)
theorem bE7:bO PG 136 f136 [4] []=true:=by kernel_rfl
theorem bGx(z w:Int):sg (!(decide (z<0)==decide (w<0))) (z.natAbs*w.natAbs)=z*w:=by
 have ea:(z.natAbs*w.natAbs:Nat)=(z*w).natAbs:=(bKJ z w).symm
 rw[ea]
 by_cases g:z<0<;>by_cases j:w<0
 ·have:=Int.mul_pos_of_neg_of_neg g j
  simp only[sg,g,j,decide_true];simp;omega
 ·have:=Int.mul_nonpos_of_nonpos_of_nonneg (bNg g) (bLV.1 j)
  simp only[sg,g,j,decide_true,decide_false];simp;omega
 ·have:=Int.mul_nonpos_of_nonneg_of_nonpos (bLV.1 g) (bNg j)
  simp only[sg,g,j,decide_true,decide_false];simp;omega
 ·have:=Int.mul_nonneg (bLV.1 g) (bLV.1 j)
  simp only[sg,g,j,decide_false];simp;omega
theorem aSn{z w:Int}(h:aX 3000000 z.natAbs)(h':aX 3000000 w.natAbs):VX (m+3) 136 [tI z,tI w]=some (tI (z*w),false):=by
 have t:=h.len
 have l2:=h'.len
 have t1:=pC (m:=m+1) (xs:=aO z.natAbs) (by omega)
 have t2:=pC (m:=m+1) (xs:=aO w.natAbs) (by omega)
 rw[kJ]at t1 t2
 have l:=bAZ (m:=m) (xs:=aO z.natAbs) (ys:=aO w.natAbs) (by omega) (by omega) (cU _) (cU _)
 rw[cO,cO]at l
 have hs:=oB (m:=m) (n:= !(decide (z<0)==decide (w<0))) (k:=z.natAbs*w.natAbs) (bK9 ((h.mul h').len) (by decide))
 rw[bGx]at hs
 refine bX rfl func136 bE7 rfl ?_
 simp only[f136,N1,bC,bF,bH,bG,bE,zB,zG]
 simp (disch:=first|rfl|omega)only[S1,zB,reduceCtorEq,zD,zG,zH,TI,aQ,(t1 _).1,(t2 _).1,wU,aC2,(l _).1,(hs _).1]
theorem wB{z w:Int}(h:aX 3000000 z.natAbs)(h':aX 3000000 w.natAbs):CC (VX (m+3)) 136 [tI z,tI w] (tI (z*w)):= .of (mG z w) (mJ z w) (aSn h h')
theorem bE4:bO PG 270 f270 [4,27,17] []=true:=by kernel_rfl
theorem aSA{z w:Int}(h:aX 8000000 z.natAbs)(h':aX 8000000 w.natAbs):VX (m+4) 270 [tI z,tI w]=some (tI (z+w),false):=by
 have t:=h.len
 have l2:=h'.len
 have t1:=pC (m:=m+2) (xs:=aO z.natAbs) (by omega)
 have t2:=pC (m:=m+2) (xs:=aO w.natAbs) (by omega)
 rw[kJ]at t1 t2
 refine bX rfl func270 bE4 rfl ?_
 simp only[f270,N1,bC,bF,bH,bG,bE,zB,zG]
 simp (disch:=first|rfl|omega)only[S1,zB,reduceCtorEq,zD,zG,zH,TI,aQ,(t1 _).1,(t2 _).1,wU,aK6]
 refine cM (fun e=> ?_) (fun e=> ?_)
 ·have l:=aRb (m:=m+1) (a:=z.natAbs) (b:=w.natAbs) (by omega) (by omega)
  have hs:=oB (m:=m+1) (n:=decide (z<0)) (k:=z.natAbs+w.natAbs) (bK9 ((h.add h').len) (by decide))
  have g:sg (decide (z<0)) (z.natAbs+w.natAbs)=z+w:=by
   simp only[beq_iff_eq,decide_eq_decide]at e
   by_cases g:z<0
   ·simp only[sg,g,decide_true,if_true];omega
   ·simp only[sg,g,decide_false];simp;omega
  rw[g]at hs
  simp (disch:=first|rfl|omega)only[S1,zB,reduceCtorEq,zD,zG,zH,TI,aQ,(l _).1,(hs _).1]
 ·have i:decide (z<0)≠decide (w<0):=by simpa using e
  have hc:=aBy (m:=m) (a:=z.natAbs) (b:=w.natAbs) (by omega)
  by_cases o:z.natAbs<w.natAbs
  ·have l:=aJ2 (m:=m+1) (xs:=aO w.natAbs) (ys:=aO z.natAbs) (by omega) (oX (by omega)) (cU _) (cU _) (by rw[cO,cO];omega)
   rw[cO,cO]at l
   have hs:=oB (m:=m+1) (n:=decide (w<0)) (k:=w.natAbs-z.natAbs) (bK9 ((h'.le (Nat.sub_le _ _)).len) (by decide))
   have g:sg (decide (w<0)) (w.natAbs-z.natAbs)=z+w:=by
    by_cases g:w<0
    ·simp only[sg,g,decide_true,if_true];simp only[g,decide_true,ne_eq,ap]at i;omega
    ·simp only[sg,g,decide_false];simp only[g,decide_false,ne_eq,decide_eq_false_iff_not,Decidable.not_not]at i;simp;omega
   rw[g]at hs
   rw[if_pos o]at hc
   simp (disch:=first|rfl|omega)only[S1,aC,aE,aM,aJ,zB,reduceCtorEq,zD,zG,zH,TI,aQ,vJ 180 rfl,hc _,aF7,(l _).1,(hs _).1]
  ·have l:=aJ2 (m:=m+1) (xs:=aO z.natAbs) (ys:=aO w.natAbs) (by omega) (oX (by omega)) (cU _) (cU _) (by rw[cO,cO];omega)
   rw[cO,cO]at l
   have hs:=oB (m:=m+1) (n:=decide (z<0)) (k:=z.natAbs-w.natAbs) (bK9 ((h.le (Nat.sub_le _ _)).len) (by decide))
   have g:sg (decide (z<0)) (z.natAbs-w.natAbs)=z+w:=by
    by_cases g:z<0
    ·simp only[sg,g,decide_true,if_true];simp only[g,decide_true,ne_eq,Bool.true_eq,ap]at i;omega
    ·simp only[sg,g,decide_false];simp only[g,decide_false,ne_eq,Bool.false_eq,decide_eq_false_iff_not,Decidable.not_not]at i;simp;omega
   rw[g]at hs
   rw[if_neg o]at hc
   obtain⟨r,q⟩:∃r:Nat,(if w.natAbs<z.natAbs then(1:Int)else 0)=(r:Int):=by
    split
    ·exact⟨1,rfl⟩
    ·exact⟨0,rfl⟩
   rw[q]at hc
   simp (disch:=first|rfl|omega)only[S1,aC,aE,aM,aJ,zB,reduceCtorEq,zD,zG,zH,TI,aQ,vJ 180 rfl,hc _,aKW,(l _).1,(hs _).1]
theorem aSE{z w:Int}(h:aX 8000000 z.natAbs)(h':aX 8000000 w.natAbs):CC (VX (m+4)) 270 [tI z,tI w] (tI (z+w)):= .of (mG z w) (mJ z w) (aSA h h')
theorem aRp{et:fP}{k:bR6}{z w:Int}:bU et .neq (.int k z) (.int k w)=some (.b (!decide (z=w))):=by simp only[bU,dX,if_true]
theorem bAp{et:fP}{z w:Int}(h:Sm z)(h':Sm w):bU et .mul (.int .i64 z) (.int .i64 w)=some (.int .i64 (z*w)):=by
 have h1:z= -1\/z=0\/z=1:=by have:=h.1;have:=h.2;omega
 have h2:w= -1\/w=0\/w=1:=by have:=h'.1;have:=h'.2;omega
 rcases h1 with rfl|rfl|rfl<;>rcases h2 with rfl|rfl|rfl<;>rfl
theorem aCp(z:Int):(z<0/\z.sign= -1)\/(z=0/\z.sign=0)\/(0<z/\z.sign=1):=by
 rcases bMs z 0 with h|h|h
 ·exact .inl ⟨h,bL5 h⟩
 ·exact .inr (.inl ⟨h,by rw[h];rfl⟩)
 ·exact .inr (.inr ⟨h,bL3 h⟩)
theorem aSb{z w:Int}(h:z.sign≠w.sign):sM z.sign w.sign=(z-w).sign:=by
 unfold sM
 rcases aCp z with ⟨a,b⟩|⟨a,b⟩|⟨a,b⟩<;>rcases aCp w with ⟨c,d⟩|⟨c,d⟩|⟨c,d⟩<;>rw[b,d]at h ⊢ <;>first|exact absurd rfl h|(rcases aCp (z-w)with ⟨e,f⟩|⟨e,f⟩|⟨e,f⟩<;>rw[f]<;>first|rfl|omega)
theorem cmp_eq{z w:Int}(h:z.sign=w.sign):z.sign*(if z.natAbs<w.natAbs then-1 else if w.natAbs<z.natAbs then 1 else 0)=(z-w).sign:=by
 rcases aCp z with ⟨a,b⟩|⟨a,b⟩|⟨a,b⟩<;>rcases aCp w with ⟨c,d⟩|⟨c,d⟩|⟨c,d⟩<;>rw[b,d]at h<;>first|(exact absurd h (by decide))|(rw[b];rcases aCp (z-w)with ⟨e,f⟩|⟨e,f⟩|⟨e,f⟩<;>rw[f]<;>split<;>first|rfl|omega|(split<;>first|rfl|omega))
theorem bEB:bO PG 88 f88 [4] []=true:=by kernel_rfl
theorem aT9{z w:Int}(h:aX 8000000 z.natAbs)(h':aX 8000000 w.natAbs):VX (m+4) 88 [tI z,tI w]=some (.int .i64 (z-w).sign,false):=by
 have t:=h.len
 have l2:=h'.len
 have t1:=pC (m:=m+2) (xs:=aO z.natAbs) (by omega)
 have t2:=pC (m:=m+2) (xs:=aO w.natAbs) (by omega)
 rw[kJ]at t1 t2
 have g1:=aC4 (m:=m+2) (h.mono (k:=9000000) (by decide))
 have g2:=aC4 (m:=m+2) (h'.mono (k:=9000000) (by decide))
 have gc:=aQo (m:=m+1) (z:=z.sign) (w:=w.sign)
 have hc:=aBy (m:=m) (a:=z.natAbs) (b:=w.natAbs) (by omega)
 refine bX rfl func88 bEB rfl ?_
 simp only[f88,N1,bC,bF,bH,bG,bE,zB,zG]
 simp (disch:=first|rfl|omega)only[S1,aC,aE,aM,aJ,zB,reduceCtorEq,zD,zG,zH,TI,g1 _,g2 _]
 have sm:Sm (if z.natAbs<w.natAbs then-1 else if w.natAbs<z.natAbs then 1 else 0):=by
  split
  ·exact⟨by decide,by decide⟩
  ·split<;>exact⟨by decide,by decide⟩
 simp (disch:=first|rfl|omega)only[S1,zB,aRp]
 refine cM (fun e=> ?_) (fun e=> ?_)
 ·have i:z.sign≠w.sign:=by simpa using e
  simp (disch:=first|rfl|omega)only[S1,zB,reduceCtorEq,vJ 179 rfl,gc _]
  rw[aSb i]
 ·have s:z.sign=w.sign:=by simpa using e
  obtain⟨r,q⟩:∃r:Int,(if z.natAbs<w.natAbs then(-1:Int)else if w.natAbs<z.natAbs then 1 else 0)=r:=⟨_,rfl⟩
  have hf:=cmp_eq s
  rw[q]at hc sm hf
  simp (disch:=first|rfl|omega)only[S1,zB,reduceCtorEq,zD,zG,zH,aQ,(t1 _).1,(t2 _).1,hc _,bAp (aD6 z) sm]
  rw[hf]
theorem aSJ{z w:Int}(h:aX 8000000 z.natAbs)(h':aX 8000000 w.natAbs):CC (VX (m+4)) 88 [tI z,tI w] (.int .i64 (z-w).sign):= .of (mG z w) (mJ z w) (aT9 h h')
theorem aYo{xs:List Nat}(h:0<xs.length):(cJ xs).length=xs.length↔xs.getD (xs.length-1) 0≠0:=by
 obtain⟨n,hn⟩:∃n,xs.length=n+1:=⟨xs.length-1,by omega⟩
 have e:xs.take (n+1)=xs:=bJU (by omega)
 rw[hn,bKs]
 constructor
 ·intro h1 h2
  have b:=xJ (xs:=xs) (k:=n) (by omega) h2
  rw[e]at b
  have f:=qN (xs.take n)
  rw[←b,bJO]at f
  omega
 ·intro h1
  have b:=xK (xs:=xs) (k:=n) (by omega) h1
  rwa [e]at b
theorem aYY:bO PG 84 f84 [2] []=true:=by kernel_rfl
theorem bAt{x:Bool×List Nat}(h:x.2.length<10000000):VX (m+1) 84 [tX x]=some (.b (eA x),false):=by
 obtain⟨n,xs⟩:=x
 simp only at h
 refine bX rfl func84 aYY rfl ?_
 simp only[f84,N1,bC,bF,bH,bG,bE,zB,zG]
 unfold eA
 simp only
 cases a:decide (xs.length=0)
 ·have c:0<xs.length:=by have:=af a;omega
  have g1:decide (0<xs.length)=true:=ak c
  have d:=aYo c
  simp (disch:=first|rfl|omega)only[S1,aN,aC,aE,aM,aJ,zB,reduceCtorEq,zD,zG,zH,rY,aQ,a,g1]
  refine rb ?_
  rw[Bool.or_true,bKD]
  by_cases h1:xs.getD (xs.length-1) 0=0
  ·rw[ak h1,ai (fun h=>d.1 h h1)];rfl
  ·rw[ai h1,ak (d.2 h1)];rfl
 ·have h0:xs=[]:=bKB (ae a)
  subst h0
  cases n
  ·simp (disch:=first|rfl|omega)only[S1,aN,aC,aE,aM,aJ,zB,reduceCtorEq,zD,zG,zH,rY,aQ]
   rfl
  ·simp (disch:=first|rfl|omega)only[S1,aN,aC,aE,aM,aJ,zB,reduceCtorEq,zD,zG,zH,rY,aQ]
   rfl
theorem aOp{x:Bool×List Nat}(h:x.2.length<10000000):CC (VX (m+1)) 84 [tX x] (.b (eA x)):= .of (aKb x) (aKf x) (bAt h)
theorem bAr:bO PG 244 f244 [5,4,16] []=true:=by kernel_rfl
theorem bFk{xs:List Nat}{n:Nat}(i:xs.length<10000000)(lx:bD xs)(hn:0<n)(a:n<4294967296):VX (m+3) 244 [tW xs,.int .u32 (n:Nat)]=some (.tp [tW (aO (val xs/n)),tW (aO (val xs%n))],false):=by
 refine bX rfl func244 bAr rfl ?_
 simp only[f244,N1,bC,bF,bH,bG,bE,zB,zG]
 simp (disch:=first|rfl|omega)only[S1,aN,aC,aE,aM,aJ,zB,zD]
 refine .loop (fun k e s=>k<=xs.length/\∃ρ zs,s.nxt=1/\s.ob 0=⟨0,zs.map wc⟩/\e 0=some (tW xs)/\e 1=some (.int .u32 (n:Nat))/\e 6=some (.ow 0 0 xs.length 1)/\e 7=some (.int .u64 (ρ:Nat))/\e 8=some (.int .i64 (iz k))/\ρ<n/\zs.length=xs.length/\bD zs/\val (xs.drop k)=n*val (zs.drop k)+ρ) xs.length ?_ (dB (by omega)) ?_
 ·refine⟨bJE _,0,bJL xs.length 0, ?_⟩
  simp (disch:=first|rfl|omega)only[S1,zB]
  simp [val,hn,qO]
 ·rintro k e s ⟨o,ρ,zs,sn,so,e0,b,c,d,f,hρ,zl,zL,g⟩
  simp (disch:=first|rfl|omega)only[S1,aC,aE,aM,aJ,zB,f]
  refine cM (fun h=> ?_) (fun h=> ?_)
  ·have h0:=ae h
   have hx:=lx.getD (k-1)
   simp (disch:=first|rfl|omega)only[S1,aC,aE,aM,aJ,zB,zG,e0,b,c,d,f,sn,so]
   have hq:=aGD hρ hx
   rw[bL1,bJR]at hq
   rw[bKg hq]
   refine⟨k-1,by omega,by omega,_,_,rfl,rfl,rfl,bK6 _ hn,by simp [zl],jQ zL hq, ?_⟩
   have:=aJI (xs:=xs) (zs:=zs) (j:=k-1) (n:=n) (r:=ρ) (by omega) zl (by rw[show k-1+1=k by omega];exact g)
   rw[bJR 4294967296,bL1 (xs.getD (k-1) 0)]at this
   exact this
  ·have h0:=af h
   obtain rfl:k=0:=by omega
   simp only[bJV]at g
   simp (disch:=first|rfl|omega)only[S1,zB,zG,c]
   rw[aDk (zs:=zs) (by omega) so zl (by omega)]
   have l:=aD2 (m:=m) (n:=ρ) (by omega)
   simp (disch:=first|rfl|omega)only[S1,zB,reduceCtorEq,d,vJ 176 rfl,l _]
   rw[aIb (by omega) so (by omega) (jF _) (by rw[fK];decide),iI zL]
   rw[g,Nat.mul_add_div hn,bLl hρ,bKR,Nat.mul_add_mod,bKg hρ]
theorem bCL{xs:List Nat}{n:Nat}(i:xs.length<10000000)(lx:bD xs)(hn:0<n)(a:n<4294967296):CC (VX (m+3)) 244 [tW xs,.int .u32 (n:Nat)] (.tp [tW (aO (val xs/n)),tW (aO (val xs%n))]):= .of (aK7 _ _ _) (by simp only[bT,fK,cV];decide) (bFk i lx hn a)
theorem bFP:bO PG 117 f117 [0] []=true:=by kernel_rfl
theorem aKl:CC (VX (m+4)) 117 [] (tI ((1:Nat):Int)):=by
 refine .of Can.nil (by simp only[bT];decide) ?_
 have f2:=aD8 (m:=m) (z:=((1:Nat):Int)) (by decide) (by decide)
 refine bX rfl func117 bFP rfl ?_
 simp only[f117,N1,bC,bF,bH,bG,bE,zB,zG]
 simp (disch:=first|rfl|omega)only[S1,aC,aE,aM,aJ,zB,reduceCtorEq,zD,zG,zH,TQ,vJ 86 rfl,f2 _]
theorem aZU:bO PG 206 f206 [2] []=true:=by kernel_rfl
theorem aBL{z:Int}:CC (VX (m+1)) 206 [tI z] (.b (decide (z=1))):=by
 refine .of (sD z) (sJ z) ?_
 refine bX rfl func206 aZU rfl ?_
 simp only[f206,N1,bC,bF,bH,bG,bE,zB,zG]
 have c:=aFh (z:=z)
 cases d:decide (z<0)
 ·cases hB:decide ((aO z.natAbs).length=1)
  ·simp (disch:=first|rfl|omega)only[S1,aN,aC,aE,aM,aJ,zB,reduceCtorEq,zD,zG,zH,TI,aQ,d,hB]
   exact rb (ai fun h=>af hB (c.2 h).1).symm
  ·have j:=ae hB
   simp (disch:=first|rfl|omega)only[S1,aN,aC,aE,aM,aJ,zB,reduceCtorEq,zD,zG,zH,TI,aQ,d,j]
   refine rb ?_
   by_cases h1:(aO z.natAbs).getD 0 0=1
   ·rw[ak h1,ak (c.1 ⟨j,h1,af d⟩)]
   ·rw[ai h1,ai fun h=>h1 (c.2 h).2.1]
 ·simp (disch:=first|rfl|omega)only[S1,aC,aE,aM,aJ,zB,reduceCtorEq,zD,zG,zH,TI,aQ,d]
  exact rb (ai fun h=>(c.2 h).2.2 (ae d)).symm
theorem aXA:bO PG 253 f253 [2] []=true:=by kernel_rfl
theorem aOg{z:Int}:CC (VX (m+1)) 253 [tI z] (.b (decide (z=0))):=by
 refine .of (sD z) (sJ z) ?_
 refine bX rfl func253 aXA rfl ?_
 simp only[f253,N1,bC,bF,bH,bG,bE,zB,zG]
 simp (disch:=first|rfl|omega)only[S1,aN,aC,aE,aM,aJ,zB,reduceCtorEq,zD,zG,zH,TI,aQ]
 exact rb (decide_eq_decide.2 aBj)
theorem aWy:bO PG 43 f43 [2] []=true:=by kernel_rfl
theorem aI1{z:Int}(h1: -9223372036854775808<=z)(h2:z<9223372036854775808):VX (m+5) 43 [.int .i64 z]=some (tR (z:Rat),false):=by
 have f1:=aD8 (m:=m+1) (z:=z) h1 h2
 have f2:=aKl (m:=m)
 refine bX rfl func43 aWy rfl ?_
 simp only[f43,N1,bC,bF,bH,bG,bE,zB,zG]
 simp (disch:=first|rfl|omega)only[S1,aD,zB,reduceCtorEq,zD,zG,zH,TQ,vJ 86 rfl,f1 _,vJ 117 rfl,f2 _]
 exact pE rfl rfl
theorem aBw{z:Int}(h1: -9223372036854775808<=z)(h2:z<9223372036854775808):CC (VX (m+5)) 43 [.int .i64 z] (tR (z:Rat)):= .of (yP _ _) (aAQ _ _) (aI1 h1 h2)
theorem aQ4:bO PG 139 f139 [2] []=true:=by kernel_rfl
theorem aFX{q:Rat}(h:FR 9000000 q):CC (VX (m+2)) 139 [tR q] (.int .i64 (gB q)):=by
 refine .of (aCl q) (aCe q) ?_
 have hs:=aC4 (m:=m) h.1
 refine bX rfl func139 aQ4 rfl ?_
 simp only[f139,N1,bC,bF,bH,bG,bE,zB,zG]
 simp (disch:=first|rfl|omega)only[S1,aC,aE,aM,aJ,zB,reduceCtorEq,zD,zG,zH,TQ,aQ,vJ 85 rfl,hs _]
 rfl
theorem bD4:bO PG 211 f211 [2] []=true:=by kernel_rfl
theorem aRW{q:Rat}(h:FR 9000000 q):VX (m+4) 211 [tR q]=some (tR (-q),false):=by
 have hs:=aSM (m:=m) h.1
 refine bX rfl func211 bD4 rfl ?_
 simp only[f211,N1,bC,bF,bH,bG,bE,zB,zG]
 simp (disch:=first|rfl|omega)only[S1,aD,zB,reduceCtorEq,zD,zG,zH,TQ,aQ,hs _]
 exact pE rfl rfl
theorem aK9{q:Rat}(h:FR 9000000 q):CC (VX (m+4)) 211 [tR q] (tR (-q)):= .of (aCl q) (aCe q) (aRW h)
theorem aQ3(z:Int){n:Nat}(h:0<n):(z*(n:Int)).sign=z.sign:=by rw[Int.sign_mul,bL3 (a:=(n:Int)) (by omega),Int.mul_one]
theorem bEn:bO PG 55 f55 [4,16] []=true:=by kernel_rfl
theorem aSk{a b:Rat}(h:FR 74900 a)(h':FR 74900 b):VX (m+5) 55 [tR a,tR b]=some (.int .i64 (gB (a-b)),false):=by
 have g1:=aFX (m:=m+2) (h.mono (k:=9000000) (by decide))
 have g2:=aFX (m:=m+2) (h'.mono (k:=9000000) (by decide))
 have l:=wB (m:=m+1) (z:=a.num) (w:=(b.den:Int)) (h.1.mono (by decide)) (h'.2.mono (by decide))
 have o:=wB (m:=m+1) (z:=b.num) (w:=(a.den:Int)) (h'.1.mono (by decide)) (h.2.mono (by decide))
 have hc:=aSJ (m:=m) (z:=a.num*b.den) (w:=b.num*a.den) ((h.mul1 h').1.mono (by decide)) ((h'.mul1 h).1.mono (by decide))
 rw[←aJT]at hc
 have s1:(a.num*b.den).sign=gB a:=aQ3 _ b.den_pos
 have i:(b.num*a.den).sign=gB b:=aQ3 _ a.den_pos
 refine bX rfl func55 bEn rfl ?_
 simp only[f55,N1,bC,bF,bH,bG,bE,zB,zG]
 simp (disch:=first|rfl|omega)only[S1,aC,aE,aM,aJ,zB,reduceCtorEq,zD,zG,zH,TQ,g1 _,g2 _,aRp]
 refine cM (fun e=> ?_) (fun e=> ?_)
 ·have f:(a.num*b.den).sign≠(b.num*a.den).sign:=by rw[s1,i];simpa using e
  have g:=aSb f
  rw[s1,i,←aJT]at g
  unfold sM at g
  simp (disch:=first|rfl|omega)only[S1,zB,aAz]
  refine cM (fun e=> ?_) (fun e=> ?_)
  ·simp (disch:=first|rfl|omega)only[S1,aC,aE,aM,aJ,zB,reduceCtorEq]
   rw[←g,if_pos (ae e)]
  ·simp (disch:=first|rfl|omega)only[S1,aC,aE,aM,aJ,zB,reduceCtorEq]
   rw[←g,if_neg (af e)]
   rw[s1,i]at f
   rw[if_pos (by have:=af e;omega)];rfl
 ·simp (disch:=first|rfl|omega)only[S1,zB,reduceCtorEq,zD,zG,zH,TQ,aQ,l _,o _,hc _]
theorem aSj{a b:Rat}(h:FR 74900 a)(h':FR 74900 b):CC (VX (m+5)) 55 [tR a,tR b] (.int .i64 (gB (a-b))):= .of (pK a b) (sH a b) (aSk h h')
theorem bFD:bO PG 246 f246 [4,16] []=true:=by kernel_rfl
theorem aTl{xs:List Nat}{sh:Nat}{s:VS}{orc:cP}(t:xs.length<9000000)(lx:bD xs)(hs:sh<32):∃R s1,fI PG bZ orc lC 246 [tW xs,.int .i64 (sh:Nat)] s=some (R,s1)/\R= .ow s.nxt 0 (xs.length+1) 1/\s1.nxt=s.nxt+1/\(∀k,k<s.nxt->s1.ob k=s.ob k)/\∃zs:List Nat,s1.ob s.nxt=⟨0,zs.map wc⟩/\zs.length=xs.length+1/\bD zs/\val zs=val xs*2^sh:=by
 refine aC7 (n:=7) rfl func246 bFD rfl ?_
 simp only[f246,N1,bC,bF,bH,bG,bE,zB,zG]
 simp (disch:=first|rfl|omega)only[S1,aH,aN,aC,aE,aM,aJ,zB,zD,zH]
 refine .up (fun k e s1=>s1.nxt=s.nxt+1/\(∀k,k<s.nxt->s1.ob k=s.ob k)/\∃zs:List Nat,s1.ob s.nxt=⟨0,zs.map wc⟩/\e 0=some (tW xs)/\e 1=some (.int .i64 (sh:Nat))/\e 5=some (.ow s.nxt 0 (xs.length+1) 1)/\e 13=some (tW xs)/\e 14=some (.int .i64 (xs.length:Nat))/\e 15=some (.int .i64 (k:Nat))/\zs.length=xs.length+1/\bD zs/\zs.getD k 0<2^sh/\(∀j,k<j->zs.getD j 0=0)/\val (zs.take (k+1))=val (xs.take k)*2^sh) xs.length ?_ (dB (by omega)) ?_
 ·have i:0<2^sh:=bKt (by decide)
  refine⟨rfl,fun k l=> ?_,bJL (xs.length+1) 0, ?_⟩
  ·rw[gY,show(k==s.nxt)=false by simp;omega];rfl
  simp (disch:=first|rfl|omega)only[S1,zB]
  refine⟨qO _,by rw[xI];exact i,fun j _=>xI _ _,by simp [val,bL7]⟩
 ·rintro k e s1 l ⟨sn,sk,zs,so,e0,d,f,a,b,c,zl,zL,z1,z2,z3⟩
  simp (disch:=first|rfl|omega)only[S1,b,c]
  refine cM (fun h=> ?_) (fun h=> ?_)
  ·have h0:=ae h
   have h1:=lx.getD k
   have h2:=aOP hs h1
   have u:=zL.getD k
   have o:=aNu hs h0 h1 zl zL z1 z2 z3
   have p:=aSr (x:=xs.getD k 0) hs z1
   have q:(zs.set k (zs.getD k 0+xs.getD k 0*2^sh%4294967296)).length=xs.length+1:=by rw[bKT,zl]
   have g:xs.getD k 0*2^sh/4294967296%4294967296=xs.getD k 0*2^sh/4294967296:=bKg (by omega)
   simp (disch:=first|rfl|omega)only[S1,aC,aE,aM,aJ,zB,reduceCtorEq,e0,d,f,a,b,c,sn,so,yA (n:=sh),p,g]
   refine⟨h0,fun j r=> ?_,_,rfl,o⟩
   rw[show(j==s.nxt)=false by simp;omega]
   exact sk j r
  ·have h0:=af h
   obtain rfl:k=xs.length:=by omega
   rw[bJU (by omega),bKp]at z3
   simp (disch:=first|rfl|omega)only[S1,zB,reduceCtorEq,f,sn,so]
   exact⟨_,rfl,rfl,sk,zs,rfl,zl,zL,z3⟩
end
end Ev
def part(xs:List Nat)(i k:Nat):List Nat:=(xs.drop i).take k
theorem xP(xs:List Nat)(i k:Nat):val (part xs i (k+1))=val (part xs i k)+4294967296^k*xs.getD (i+k) 0:=by
 unfold part;rw[nZ,vH]
theorem aFq{zs:List Nat}{i k y:Nat}(h:i+k<zs.length):val (part (zs.set (i+k) y) i (k+1))=val (part zs i k)+4294967296^k*y:=by
 rw[xP,vE h]
 congr 2
 unfold part
 rw[List.drop_set,if_neg (by omega),show i+k-i=k by omega,List.take_set_of_le (by omega)]
theorem aLB{P b X Y B z y:Nat}(h:P+B*b=X+Y):P+B*((b+(z+y))%4294967296)+B*4294967296*((b+(z+y))/4294967296)=X+B*z+(Y+B*y):=by
 have e:=bL2 (b+(z+y)) 4294967296
 generalize (b+(z+y))%4294967296=r at*
 generalize (b+(z+y))/4294967296=q at*
 have F:B*(4294967296*q+r)=B*b+B*z+B*y:=by rw[e,bK4,bK4];omega
 rw[bK4]at F
 rw[bK1]
 omega
namespace Ev
section
variable {m:Nat}
theorem bCH{et:fP}{x y:Nat}:bU et .add (.int .u32 (x:Int)) (.int .u32 (y:Int))=some (.int .u32 (((x+y)%4294967296:Nat):Int)):=by
 simp only[bU,dX,if_true]
 rw[show(x:Int)+(y:Int)=((x+y:Nat):Int) by simp,aIV]
theorem aWv:bO PG 248 f248 [] []=true:=by kernel_rfl
theorem aXw{xs ys ys0:List Nat}{g g2 i n:Nat}{s:VS}{orc:cP}(O:g<s.nxt)(G:s.ob g=⟨0,xs.map wc⟩)(H:g2<s.nxt)(l:s.ob g2=⟨0,ys0.map wc⟩)(o:g2≠g)(d:ys0.take n=ys)(I:bD xs)(J:bD ys)(hn:ys.length=n)(Q:i+(n+1)<=xs.length)(S:xs.length<9000000):∃R s1,fI PG bZ orc lC 248 [.ow g i (n+1) 1,.ow g2 0 n 1] s=some (R,s1)/\s1.nxt=s.nxt/\(∀j,j≠g->s1.ob j=s.ob j)/\∃(zs:List Nat) (q:Nat),s1.ob g=⟨0,zs.map wc⟩/\bD zs/\zs.length=xs.length/\(∀t,(t<i\/i+(n+1)<=t)->zs.getD t 0=xs.getD t 0)/\val (part zs i (n+1))+4294967296^(n+1)*q=val (part xs i (n+1))+val ys:=by
 have K:n<=ys0.length:=by rw[←d,bJO]at hn;omega
 have a:∀k,k<n->ys0.getD k 0=ys.getD k 0:=fun k v=>by rw[←d,getD_take v]
 refine aC7 (n:=7) rfl func248 aWv rfl ?_
 simp only[f248,N1,bC,bF,bH,bG,bE,zG]
 simp (disch:=first|rfl|omega)only[S1,aH,aN,aC,aE,aM,aJ,zB,zD]
 refine .up (fun k e s1=>s1.nxt=s.nxt/\(∀j,j≠g->s1.ob j=s.ob j)/\∃(b:Nat) (zs:List Nat),s1.ob g=⟨0,zs.map wc⟩/\e 0=some (.ow g i (n+1) 1)/\e 1=some (.ow g2 0 n 1)/\e 4=some (.int .u64 (b:Nat))/\e 7=some (.ow g2 0 n 1)/\e 8=some (.int .i64 (n:Nat))/\e 9=some (.int .i64 (k:Nat))/\b<=1/\bD zs/\zs.length=xs.length/\(∀t,(t<i\/i+k<=t)->zs.getD t 0=xs.getD t 0)/\val (part zs i k)+4294967296^k*b=val (part xs i k)+val (ys.take k)) n ?_ (dB (by omega)) ?_
 ·refine⟨rfl,fun _ _=>rfl,0,xs,G, ?_, ?_, ?_, ?_, ?_, ?_,bJJ _,I,rfl,fun _ _=>rfl, ?_⟩<;>first|(simp (disch:=first|rfl|omega)only[S1,zB];done)|simp [val,part]
 ·rintro k e s1 v ⟨sn,sk,b,zs,so,e0,w,A,C,D,E,L,zL,zl,zo,p⟩
  by_cases hc:k<n
  ·have g1:decide (k<n)=true:=ak hc
   have so2:=(sk g2 o).trans l
   have sn2:g2<s1.nxt:=by omega
   have a:=a k hc
   have M:=zL.getD (i+k)
   have T:=J.getD k
   have c:=zo (i+k) (.inr (bJE _))
   simp (disch:=first|rfl|omega)only[S1,aC,aE,aM,aJ,zB,reduceCtorEq,e0,w,A,C,D,E,sn,so,so2,g1,a]
   refine⟨hc,fun j f=> ?_,_,_,rfl,rfl,by omega,jQ zL (bK6 _ (by decide)),by rw[bKT,zl],fun t N=> ?_, ?_⟩
   ·rw[show(j==g)=false by simpa using f];exact sk j f
   ·rw[getD_set_ne (by omega)];exact zo t (by omega)
   ·rw[aFq (by omega),xP,nZ,←c,bJX]
    exact aLB p
  ·have g1:decide (k<n)=false:=ai hc
   obtain rfl:k=n:=by omega
   rw[bJU (by omega)]at p
   have M:=zL.getD (i+k)
   have c:=zo (i+k) (.inr (bJE _))
   have u:b%4294967296=b:=bKg (by omega)
   simp (disch:=first|rfl|omega)only[S1,aN,zB,reduceCtorEq,e0,w,A,D,E,sn,so,g1,u,bCH]
   refine⟨_,rfl,fun j f=> ?_,_,(zs.getD (i+k) 0+b)/4294967296,rfl,jQ zL (bK6 _ (by decide)),by rw[bKT,zl],fun t N=> ?_, ?_⟩
   ·rw[show(j==g)=false by simpa using f];exact sk j f
   ·rw[getD_set_ne (by omega)];exact zo t (by omega)
   ·rw[aFq (by omega),xP,←c,bJX]
    have h0:=aLB (y:=0) (z:=zs.getD (i+k) 0) (Y:=val ys) p
    rw[bKR,bLz,bKR,bL1 b]at h0
    rw[h0]
end
end Ev
theorem bCA{x y d b p q:Nat}(hx:x<4294967296)(J:y<4294967296)(K:d<4294967296)(O:b<4294967296)(c:p=y*d+b)(hq:q=if x<p%4294967296 then 1 else 0):
  p<18446744073709551616/\p/4294967296+q<4294967296/\(x+4294967296*q-p%4294967296)+p=x+4294967296*(p/4294967296+q)/\x+4294967296*q-p%4294967296<4294967296:=by
 have h1:y*d<=4294967295*4294967295:=bLh (by omega) (by omega)
 have h2:p<=4294967295*4294967296:=by omega
 split at hq
 ·subst hq;refine⟨by omega, ?_,by omega,by omega⟩
  omega
 ·subst hq;refine⟨by omega,by omega,by omega,by omega⟩
theorem aZP{P Y X d b o x y p b' BK:Nat}(h5:P+d*Y=X+BK*b)(c:p=y*d+b)(hs:o+p=x+4294967296*b'):P+BK*o+d*(Y+BK*y)=X+BK*x+BK*4294967296*b':=by
 have C:d*(Y+BK*y)=d*Y+BK*(y*d):=by rw[bK4,bMI,bJR d y]
 have l:=congrArg (BK* ·) hs
 simp only[bK4,c]at l
 rw[C,bK1]
 omega
theorem aO4{x p q:Nat}(hx:x<4294967296)(c:p<4294967296)(hq:q=if x<p then 1 else 0):(x+18446744073709551616-p)%18446744073709551616%4294967296=x+4294967296*q-p/\(x+18446744073709551616-p)%18446744073709551616/2^63=q:=by
 rw[show(2:Nat)^63=9223372036854775808 from rfl]
 split at hq
 all_goals
  subst hq
  omega
namespace Ev
section
variable {m:Nat}
theorem aVS:bO PG 247 f247 [6,16] []=true:=by kernel_rfl
theorem aW5{xs ys ys0:List Nat}{g g2 i n d:Nat}{s:VS}{orc:cP}(hg:g<s.nxt)(Q:s.ob g=⟨0,xs.map wc⟩)(S:g2<s.nxt)(E:s.ob g2=⟨0,ys0.map wc⟩)(F:g2≠g)(r:ys0.take n=ys)(T:bD xs)(U:bD ys)(hn:ys.length=n)(hi:i+(n+1)<=xs.length)(O:xs.length<9000000)(K:d<4294967296):∃R s1,fI PG bZ orc lC 247 [.ow g i (n+1) 1,.ow g2 0 n 1,.int .u64 (d:Nat)] s=some (R,s1)/\s1.nxt=s.nxt/\(∀j,j≠g->s1.ob j=s.ob j)/\∃(zs:List Nat) (q:Nat),R= .b (decide (q=1))/\q<=1/\s1.ob g=⟨0,zs.map wc⟩/\bD zs/\zs.length=xs.length/\(∀t,(t<i\/i+(n+1)<=t)->zs.getD t 0=xs.getD t 0)/\val (part zs i (n+1))+d*val ys=val (part xs i (n+1))+4294967296^(n+1)*q:=by
 have sh63:∀x:Nat,bU (fA PG 103) .shr (.int .u64 (x:Int)) (.int .u64 ((63:Nat):Int))=some (.int .u64 ((x/2^63:Nat):Int)):=fun x=>yG (by decide)
 have V:n<=ys0.length:=by rw[←r,bJO]at hn;omega
 have f:∀k,k<n->ys0.getD k 0=ys.getD k 0:=fun k L=>by rw[←r,getD_take L]
 refine aC7 (n:=7) rfl func247 aVS rfl ?_
 simp only[f247,N1,bC,bF,bH,bG,bE,zB,zG]
 simp (disch:=first|rfl|omega)only[S1,aH,aN,aC,aE,aM,aJ,zB,zD]
 refine .up (fun k e s1=>s1.nxt=s.nxt/\(∀j,j≠g->s1.ob j=s.ob j)/\∃(b:Nat) (zs:List Nat),s1.ob g=⟨0,zs.map wc⟩/\e 0=some (.ow g i (n+1) 1)/\e 1=some (.ow g2 0 n 1)/\e 2=some (.int .u64 (d:Nat))/\e 7=some (.int .u64 (b:Nat))/\e 13=some (.ow g2 0 n 1)/\e 14=some (.int .i64 (n:Nat))/\e 15=some (.int .i64 (k:Nat))/\b<4294967296/\bD zs/\zs.length=xs.length/\(∀t,(t<i\/i+k<=t)->zs.getD t 0=xs.getD t 0)/\val (part zs i k)+d*val (ys.take k)=val (part xs i k)+4294967296^k*b) n ?_ (dB (by omega)) ?_
 ·refine⟨rfl,fun _ _=>rfl,0,xs,Q, ?_, ?_, ?_, ?_, ?_, ?_, ?_,by decide,T,rfl,fun _ _=>rfl, ?_⟩<;>first|(simp (disch:=first|rfl|omega)only[S1,zB];done)|simp [val,part]
 ·rintro k e s1 L ⟨sn,sk,b,zs,so,e0,C,l,M,u,v,w,z,zL,zl,zo,N⟩
  by_cases hc:k<n
  ·have g1:decide (k<n)=true:=ak hc
   have so2:=(sk g2 F).trans E
   have sn2:g2<s1.nxt:=by omega
   have f:=f k hc
   have D:=zL.getD (i+k)
   have J:=U.getD k
   have h:=zo (i+k) (.inr (bJE _))
   obtain⟨p,c⟩:∃p,p=ys.getD k 0*d+b:=⟨_,rfl⟩
   obtain⟨q,hq⟩:∃q,q=if zs.getD (i+k) 0<p%4294967296 then 1 else 0:=⟨_,rfl⟩
   obtain⟨t1,t2,t3,t4⟩:=bCA D J K z c hq
   obtain⟨G,H⟩:=aO4 D (bK6 p (by decide)) hq
   have W:ys.getD k 0*d<18446744073709551616:=by omega
   have Z:ys.getD k 0*d+b<18446744073709551616:=by omega
   have a:=aBY (et:=fA PG 103) (x:=zs.getD (i+k) 0) (y:=p%4294967296) (by omega) (by omega)
   simp (disch:=first|rfl|omega)only[S1,aC,aE,aM,aJ,zB,reduceCtorEq,e0,C,l,M,u,v,w,sn,so,so2,g1,f,←c,a,sh63,G,H]
   refine⟨hc,fun j A=> ?_,_,_,rfl,rfl,t2,jQ zL t4,by rw[bKT,zl],fun t ht=> ?_, ?_⟩
   ·rw[show(j==g)=false by simpa using A];exact sk j A
   ·rw[getD_set_ne (by omega)];exact zo t (by omega)
   ·rw[aFq (by omega),xP,nZ,←h,bJX]
    exact aZP N c t3
  ·have g1:decide (k<n)=false:=ai hc
   obtain rfl:k=n:=by omega
   rw[bJU (by omega)]at N
   have D:=zL.getD (i+k)
   have h:=zo (i+k) (.inr (bJE _))
   obtain⟨q,hq⟩:∃q,q=if zs.getD (i+k) 0<b then 1 else 0:=⟨_,rfl⟩
   obtain⟨G,H⟩:=aO4 D z hq
   have a:=aBY (et:=fA PG 103) (x:=zs.getD (i+k) 0) (y:=b) (by omega) (by omega)
   have I:q<=1:=by rw[hq];split<;>omega
   have B:zs.getD (i+k) 0+4294967296*q-b<4294967296/\zs.getD (i+k) 0+4294967296*q-b+b=zs.getD (i+k) 0+4294967296*q:=by
    split at hq<;>subst hq<;>omega
   simp (disch:=first|rfl|omega)only[S1,aN,aC,aE,aM,aJ,zB,reduceCtorEq,e0,C,M,v,w,sn,so,g1,a,sh63,G,H]
   refine⟨_,rfl,fun j A=> ?_,_,q,rfl,I,rfl,jQ zL B.1,by rw[bKT,zl],fun t ht=> ?_, ?_⟩
   ·rw[show(j==g)=false by simpa using A];exact sk j A
   ·rw[getD_set_ne (by omega)];exact zo t (by omega)
   ·rw[aFq (by omega),xP,←h,bJX]
    have l:=congrArg (4294967296^k* ·) B.2
    simp only[bK4]at l
    rw[bK1]
    omega
end
end Ev
theorem aW0{us xs:List Nat}{j k:Nat}(I:val (xs.drop j)<4294967296^k)(hs:∀t,j+k<=t->us.getD t 0=xs.getD t 0):val (us.drop j)=val (part us j k):=by
 apply aIn
 intro t
 unfold part
 by_cases J:t<k
 ·rw[getD_take J]
 ·rw[vH,hs _ (by omega),←vH,aHI I (by omega),qQ (by rw[bJO];omega)]
theorem aVW{us xs:List Nat}{j:Nat}(K:us.length=xs.length)(hs:∀t,t<j->us.getD t 0=xs.getD t 0):us.take j=xs.take j:=by
 apply aFA (by rw[bJO,bJO,K])
 intro t v
 rw[bJO]at v
 rw[getD_take (by omega),getD_take (by omega)]
 exact hs t (by omega)
structure wJ(U V B q t h n x:Nat):Prop where
 hB:0<B
 hq:q*V<=U
 hq':U<(q+1)*V
 hqs:q<4294967296
 hh:2147483648<=h
 hh':h<4294967296
 hn:n<4294967296
 hx:x<4294967296
 hU:U/B=x+4294967296*t
 hV:(n+4294967296*h)*B<=V
 hV':V<(n+4294967296*h+1)*B
 hUV:t<(h+1)*4294967296
theorem wJ.first{U V B q t h n x:Nat}(g:wJ U V B q t h n x):q<=t/h/\t/h<=4294967297/\h*(t/h)+t%h=t/\t%h<4294967296:=by
 have hh:=g.hh
 have h1:U/(4294967296*B)=t:=by
  rw[bJR,←Nat.div_div_eq_div_mul,g.hU]
  have:=g.hx
  omega
 have h2:h*(4294967296*B)<=V:=by
  refine bJH ?_ g.hV
  rw[←bK1]
  exact bK8 _ (by omega)
 refine⟨aLS h1 h2 (bKG (by omega) g.hB) (by omega) g.hq, ?_,bL2 t h,bKV (bK6 t (by omega)) g.hh'⟩
 have i:=g.hUV
 have u:=g.hh'
 rw[bKw,bLI]at i
 have G:t<4294967298*h:=by omega
 have:=bLy (by rw[bJR]at G;exact G)
 omega
theorem wJ.great{U V B q t h n x d r:Nat}(g:wJ U V B q t h n x)(e:h*d+r=t)(hc:x+4294967296*r<d*n):q<d:=by
 refine aVG g.hU g.hV g.hB g.hq ?_
 rw[←e,bK4 d,bK4 4294967296,bMI d,bJR d h]
 omega
theorem wJ.near{U V B q t h n x d r:Nat}(g:wJ U V B q t h n x)(e:h*d+r=t)(m:d<4294967296)(w:q<=d)(hc:d*n<=x+4294967296*r):d=q\/d=q+1:=by
 have h1:d*(n+4294967296*h)<=x+4294967296*t:=by
  rw[←e,bK4 d,bK4 4294967296,bMI d,bJR d h]
  omega
 have h2:(x+4294967296*t)*B<=U:=by rw[←g.hU];exact bM8 _ _
 have i:d*B<=4294967296*B:=bK8 _ (by omega)
 have u:4294967296*B<=V:=bJH (bK8 _ (by have:=g.hh;omega)) g.hV
 have:=aXr h2 g.hV' i u g.hq' h1
 omega
theorem wJ.low{U V B q t h n x d r:Nat}(g:wJ U V B q t h n x)(e:h*d+r=t)(m:d<=4294967296)(w:q<=d)(S:4294967296<=r):d=q:=by
 have h2:t*(4294967296*B)<=U:=by
  refine bJH ?_ (bM8 U B)
  rw[g.hU,←bK1]
  exact bK8 _ (by omega)
 have i:V<=(h+1)*(4294967296*B):=by
  refine bJH (bKb g.hV') ?_
  rw[←bK1]
  exact bK8 _ (by have:=g.hn;omega)
 have:=aZj h2 i m (by rw[bJR d h];omega) g.hq'
 omega
theorem bBH{xs ys:List Nat}{j p V:Nat}(H:bD xs)(y:bD ys)(L:p+2<=ys.length)(hV:val ys=V)(l:4294967296^(p+1)*2147483648<=V)(o:V<4294967296^(p+2))(hU:val (xs.drop j)<V*4294967296):
  wJ (val (xs.drop j)) V (4294967296^p) (val (xs.drop j)/V) (xs.getD (j+p+1) 0+4294967296*xs.getD (j+p+2) 0) (ys.getD (p+1) 0) (ys.getD p 0) (xs.getD (j+p) 0):=by
 have hB:0<4294967296^p:=aDr p
 have z:0<V:=bJK (bKG (aDr (p+1)) (by omega)) l
 have eY:V=val (ys.take p)+4294967296^p*(ys.getD p 0+4294967296*ys.getD (p+1) 0):=by
  have h1:val (ys.take (p+2))=val ys:=aD0 (by rw[hV];exact o)
  rw[←hV,←h1,nZ,nZ,bJX,bK4,bK1,bLO]
 have A:val (ys.take p)<4294967296^p:=by
  have:=jE (y.take p)
  rwa [bJO,bK7 (by omega)]at this
 have eU:val (xs.drop j)=val (part xs j p)+4294967296^p*(xs.getD (j+p) 0+4294967296*(xs.getD (j+p+1) 0+4294967296*xs.getD (j+p+2) 0)):=by
  have h1:val (part xs j (p+3))=val (xs.drop j):=aD0 (bJK hU (by rw[bJX];exact bK8 _ (bKb o)))
  rw[←h1,xP,xP,xP,bJX,bJX]
  rw[show j+(p+2)=j+p+2 by omega,show j+(p+1)=j+p+1 by omega]
  simp only[bK4,bK1,bLO]
  rw[bJX]
  simp only[bK1]
 have C:val (part xs j p)<4294967296^p:=by
  have h1:=jE (((H.drop j).take p))
  refine bJK h1 (bK2 (by omega) ?_)
  rw[bJO];omega
 have D:=y.getD (p+1)
 have E:=y.getD p
 have F:=H.getD (j+p)
 generalize val (part xs j p)=a at*
 generalize val (ys.take p)=b at*
 generalize val (xs.drop j)=U at*
 generalize xs.getD (j+p) 0=M at*
 generalize xs.getD (j+p+1) 0=N at*
 generalize xs.getD (j+p+2) 0=O at*
 generalize ys.getD (p+1) 0=h at*
 generalize ys.getD p 0=n at*
 have s:U/4294967296^p=M+4294967296*(N+4294967296*O):=by
  rw[eU,bMG _ _ hB,bLl C,bKi]
 have f:V/4294967296^p=n+4294967296*h:=by
  rw[eY,bMG _ _ hB,bLl A,bKi]
 refine⟨hB,bM8 _ _, ?_, ?_, ?_,D,E,F,s, ?_, ?_, ?_⟩
 ·have:=bNf U z
  rwa [bJR]at this
 ·exact bLy hU
 ·have h1:4294967296*2147483648<=V/4294967296^p:=by
   rw[bLS hB]
   rw[bJX]at l
   refine bJH (bLv ?_) l
   rw[bJR,bK1]
  rw[f]at h1
  omega
 ·rw[←f];exact bM8 _ _
 ·rw[←f,bJR];exact bNf V hB
 ·have h1:U/4294967296^p<(n+4294967296*h+1)*4294967296:=by
   apply bLy
   refine bJK hU ?_
   have h2:V<(n+4294967296*h+1)*4294967296^p:=by rw[←f,bJR];exact bNf V hB
   refine bJH (bK8 4294967296 (bKb h2)) (bLv ?_)
   rw[bJR _ (4294967296^p),bK1]
  rw[s]at h1
  have i:(n+4294967296*h+1)*4294967296<=4294967296*(4294967296*(h+1)):=by
   rw[bJR];exact bK5 _ (by omega)
  omega
theorem bAT{P d V U qd:Nat}(h:P+d*V=U)(hq:U/V=qd)(m:d=qd\/d=qd+1)(hV:0<V):d=qd/\P=U%V:=by
 have h1:=bL2 U V
 have h2:=bK6 U hV
 rw[hq]at h1
 rcases m with rfl|rfl
 ·refine⟨rfl, ?_⟩
  rw[bJR]at h1;omega
 ·exfalso
  rw[bKw,bLI,bJR qd]at h;omega
theorem bF2{P P2 c d V U B3 qd:Nat}(h:P+d*V=U+B3)(T:P<B3)(h2:P2+B3*c=P+V)(Q:P2<B3)(R:V<=B3)(hq:U/V=qd)(m:d=qd\/d=qd+1)(hV:0<V):d=qd+1/\P2=U%V:=by
 have h1:=bL2 U V
 have i:=bK6 U hV
 rw[hq]at h1
 rcases m with rfl|rfl
 ·exfalso
  rw[bJR]at h1;omega
 ·refine⟨rfl, ?_⟩
  rw[bKw,bLI,bJR qd]at h
  have u:P2+B3*c=B3+U%V:=by omega
  match c with
  |0=>omega
  |1=>omega
  |c+2=>rw[bK4]at u;have:0<=B3*c:=bJJ _;omega
theorem bHh{x y s r:Nat}(p:s+r=32)(hx:x<4294967296):(x/2^s)|||(y*2^r%4294967296)=(x+4294967296*y)/2^s%4294967296:=by
 have f:2^s*2^r=4294967296:=by rw[←bL4,p]
 have h0:0<2^s:=bKt (by omega)
 have q:x/2^s<2^r:=bLy (by rw[f];exact hx)
 have E:(x+4294967296*y)/2^s=x/2^s+2^r*y:=by
  rw[←f,bK1,bMG _ _ h0]
 have F:y*2^r%4294967296=2^r*(y%2^s):=by
  rw[←f,bJR (2^s) (2^r),bJR y,Nat.mul_mod_mul_left]
 have g:(x/2^s+2^r*y)%4294967296=x/2^s+2^r*(y%2^s):=by
  have h1:=bL2 y (2^s)
  have h2:2^r*(y%2^s)+2^r<=4294967296:=by
   have t:y%2^s+1<=2^s:=bK6 _ h0
   have l:=bK5 (2^r) t
   rw[bK4,bKk,bJR (2^r) (2^s),f]at l
   exact l
  have G:2^r*y=4294967296*(y/2^s)+2^r*(y%2^s):=by
   conv=>lhs;rw[←h1]
   rw[bK4,←bK1,bJR (2^r) (2^s),f]
  rw[G]
  generalize 2^r*(y%2^s)=u at*
  generalize x/2^s=v at*
  generalize 2^r=P at*
  omega
 rw[E,F,g,Nat.or_comm,←Nat.two_pow_add_eq_or_of_lt q,bL1]
theorem bAe{y r:Nat}(H:r<=32)(K:y<4294967296):y*2^r<18446744073709551616:=by
 have h1:2^r<=2^32:=bK2 (by decide) H
 have h2:y*2^r<=4294967295*2^32:=bLh (by omega) h1
 omega
namespace Ev
section
variable {m:Nat}
theorem aC3{et:fP}{k:bR6}{x n:Nat}(h:n<=32):bU et .shr (.int .u32 (x:Int)) (.int k (n:Int))=some (.int .u32 ((x/2^n:Nat):Int)):=by
 simp only[bU]
 rw[if_pos ⟨by omega,by omega⟩]
 simp only[qZ,qZ.bitsN',Int.toNat_natCast,bK7 h]
theorem bDm:bO PG 249 f249 [4,28] []=true:=by kernel_rfl
theorem bGk{xs:List Nat}{sh:Nat}(C:xs.length<9000000)(lx:bD xs)(hs:sh<32):VX (m+1) 249 [tW xs,.int .i64 (sh:Nat)]=some (.tp [tW (nK sh xs)],true):=by
 refine bX rfl func249 bDm rfl ?_
 simp only[f249,N1,bC,bF,bH,bG,bE,zB,zG]
 simp (disch:=first|rfl|omega)only[S1,aN,aC,aE,aM,aJ,zB,zD]
 refine .up (fun k e s=>∃zs:List Nat,s.nxt=1/\s.ob 0=⟨0,zs.map wc⟩/\e 0=some (tW xs)/\e 1=some (.int .i64 (sh:Nat))/\e 5=some (.ow 0 0 xs.length 1)/\e 11=some (tW xs)/\e 12=some (.int .i64 (xs.length:Nat))/\e 13=some (.int .i64 (k:Nat))/\zs.length=xs.length/\(∀j,j<k->zs.getD j 0=rA xs sh j)) xs.length ?_ (dB (by omega)) ?_
 ·refine⟨bJL xs.length 0, ?_⟩
  simp (disch:=first|rfl|omega)only[S1,zB]
  exact fun j D=>absurd D (by omega)
 ·rintro k e s L ⟨zs,sn,so,e0,w,g,a,b,c,zl,z⟩
  by_cases h0:k<xs.length
  ·have g1:decide (k<xs.length)=true:=ak h0
   have h1:=lx.getD k
   have h2:=lx.getD (k+1)
   cases o:decide (k+1<xs.length)
   ·have t:=af o
    have l:xs.getD k 0/2^sh=rA xs sh k:=by
     rw[rA,show xs.getD (k+1) 0=0 from qQ (by omega),bLz,bKR,bKg (bK9 (bLb _ _) h1)]
    simp (disch:=first|rfl|omega)only[S1,aN,aC,aE,aM,aJ,zB,zG,e0,w,g,a,b,c,sn,so,g1,o,aC3 (n:=sh)]
    exact⟨h0,_,rfl,by simp [zl],aFf (by omega) z l.symm⟩
   ·have t:=ae o
    have A:=bHh (x:=xs.getD k 0) (y:=xs.getD (k+1) 0) (s:=sh) (r:=32-sh) (by omega) h1
    have B:=bAe (y:=xs.getD (k+1) 0) (r:=32-sh) (by omega) h2
    have I:xs.getD k 0/2^sh<4294967296:=bK9 (bLb _ _) h1
    have J:xs.getD (k+1) 0*2^(32-sh)%4294967296<4294967296:=bK6 _ (by decide)
    have d:(zs.set k (xs.getD k 0/2^sh)).getD k 0=xs.getD k 0/2^sh:=YtmjoaipkaddkbaaGreatDoor.vE (by omega) _
    have i:(zs.set k (xs.getD k 0/2^sh)).length=xs.length:=by rw[bKT,zl]
    simp (disch:=first|rfl|omega)only[S1,aN,aC,aE,aM,aJ,zB,reduceCtorEq,zG,e0,w,g,a,b,c,sn,so,g1,o,aC3 (n:=sh),yA (n:=32-sh),d,i,A]
    refine⟨h0,_,rfl,by rw[bKT,i], ?_⟩
    rw[List.set_set]
    exact aFf (by omega) z rfl
  ·have g1:decide (k<xs.length)=false:=ai h0
   obtain rfl:k=xs.length:=by omega
   have e:zs=nK sh xs:=aFA (by rw[zl,aHN]) fun j D=>by rw[z j (by omega),aMD sh xs j (by omega)]
   simp (disch:=first|rfl|omega)only[S1,zB,reduceCtorEq,g,b,c,g1]
   rw[aFU (by omega) so (by omega),bJV,bJU (by omega),e]
theorem bGv{xs:List Nat}{sh:Nat}(C:xs.length<9000000)(lx:bD xs)(hs:sh<32):CC (VX (m+1)) 249 [tW xs,.int .i64 (sh:Nat)] (tW (nK sh xs)):= .fr (aK7 _ _ _) (by simp only[bT,fK,cV];decide) (bGk C lx hs)
def blF:Nat->Nat->Nat
 |0,_=>0
 |f+1,x=>if x=0 then 0 else blF f (x/2)+1
theorem aTw:∀(f x:Nat),x<2^f->blF f x=blen x
 |0,x,h=>by
  have:x=0:=by simp at h;exact h
  rw[this,aBz];rfl
 |f+1,x,h=>by
  unfold blF
  split
  ·next h0=>rw[h0,aBz]
  ·next h0=>rw[aAt h0,aTw f (x/2) (by rw[bJX]at h;omega)]
def aUJ:ByteArray:={ data:=(([0,1,2,2,3,3,3,3,4,4,4,4,4,4,4,4,5,5,5,5,5,5,5,5,5,5,5,5,5,5,5,5,6,6,6,6,6,6,6,6,6,6,6,6,6,6,6,6,6,6,6,6,6,6,6,6,6,6,6,6,6,6,6,6].append [7,7,7,7,7,7,7,7,7,7,7,7,7,7,7,7,7,7,7,7,7,7,7,7,7,7,7,7,7,7,7,7,7,7,7,7,7,7,7,7,7,7,7,7,7,7,7,7,7,7,7,7,7,7,7,7,7,7,7,7,7,7,7,7]).append ([8,8,8,8,8,8,8,8,8,8,8,8,8,8,8,8,8,8,8,8,8,8,8,8,8,8,8,8,8,8,8,8,8,8,8,8,8,8,8,8,8,8,8,8,8,8,8,8,8,8,8,8,8,8,8,8,8,8,8,8,8,8,8,8].append [8,8,8,8,8,8,8,8,8,8,8,8,8,8,8,8,8,8,8,8,8,8,8,8,8,8,8,8,8,8,8,8,8,8,8,8,8,8,8,8,8,8,8,8,8,8,8,8,8,8,8,8,8,8,8,8,8,8,8,8,8,8,8,8])).toArray }
theorem bBB:((List.range 256).all fun j=>uM aUJ j==some (blF 8 j))=true:=by kernel_rfl
theorem bFi{j:Nat}(h:j<256):uM aUJ j=some (blen j):=by
 have:=bKq.1 bBB j (List.mem_range.2 h)
 rw[←aTw 8 j h]
 exact eq_of_beq this
theorem aFy{j:Nat}(h:j<256):uM { data:=(([0,1,2,2,3,3,3,3,4,4,4,4,4,4,4,4,5,5,5,5,5,5,5,5,5,5,5,5,5,5,5,5,6,6,6,6,6,6,6,6,6,6,6,6,6,6,6,6,6,6,6,6,6,6,6,6,6,6,6,6,6,6,6,6].append [7,7,7,7,7,7,7,7,7,7,7,7,7,7,7,7,7,7,7,7,7,7,7,7,7,7,7,7,7,7,7,7,7,7,7,7,7,7,7,7,7,7,7,7,7,7,7,7,7,7,7,7,7,7,7,7,7,7,7,7,7,7,7,7]).append ([8,8,8,8,8,8,8,8,8,8,8,8,8,8,8,8,8,8,8,8,8,8,8,8,8,8,8,8,8,8,8,8,8,8,8,8,8,8,8,8,8,8,8,8,8,8,8,8,8,8,8,8,8,8,8,8,8,8,8,8,8,8,8,8].append [8,8,8,8,8,8,8,8,8,8,8,8,8,8,8,8,8,8,8,8,8,8,8,8,8,8,8,8,8,8,8,8,8,8,8,8,8,8,8,8,8,8,8,8,8,8,8,8,8,8,8,8,8,8,8,8,8,8,8,8,8,8,8,8])).toArray } j=some (blen j):=bFi h
theorem n8:nP PG 100 5=some .u8:=by kernel_rfl
theorem n8i:nP PG 5 3=some .i64:=by kernel_rfl
theorem aED:nH PG 9=true:=by kernel_rfl
theorem aDJ{x:Nat}:IntKind.u8.wrap (x:Int)=((x%256:Nat):Int):=by
 have i:(2^IntKind.u8.bits:Int)=256:=rfl
 unfold IntKind.wrap
 simp only[i,IntKind.signed,bLH,Bool.false_eq_true,if_false]
 omega
theorem aG0:∀(k:Nat) {x:Nat},2^k<=x->blen x=blen (x/2^k)+k
 |0,x,_=>by simp
 |k+1,x,h=>by
  have h1:2^k*2<=x:=h
  have h2:0<2^k:=bKt (by decide)
  have o:2<=x/2^k:=(bLS h2).2 (by rw[bJR];exact h1)
  rw[aG0 k (by omega),aAt (show x/2^k≠0 by omega),Nat.div_div_eq_div_mul,bJX]
  omega
theorem bBu:bO PG 288 f288 [2] []=true:=by kernel_rfl
theorem bEF{x:Nat}(hx:x<4294967296):VX (m+1) 288 [.int .u32 (x:Nat)]=some (.int .i64 (blen x:Nat),false):=by
 refine bX rfl func288 bBu rfl ?_
 simp only[f288,N1,bC,bF,bH,bG,bE,zB,zG]
 have l:blen x<33:=by have:=aBT (k:=32) hx;omega
 cases b:decide (65536<=x)
 ·have h1:=af b
  cases hB:decide (256<=x)
  ·have h2:=af hB
   have a:x%256=x:=bKg (by omega)
   simp (disch:=first|rfl|omega)only[S1,aC,aE,aM,aJ,zB,reduceCtorEq,b,hB,n8,n8i,aED,aDJ,a,aFy (j:=x) (by omega)]
  ·have h2:=ae hB
   have a:x/2^8%256=x/2^8:=bKg (by omega)
   have d:=aG0 8 h2
   have c:x/2^8<256:=by omega
   simp (disch:=first|rfl|omega)only[S1,aC,aE,aM,aJ,zB,reduceCtorEq,b,hB,n8,n8i,aED,aDJ,aC3 (n:=8),a,aFy (j:=x/2^8) c]
   rw[d,bL1]
 ·have h1:=ae b
  have d:=aG0 16 h1
  have p:x/2^16<65536:=by omega
  have g:blen (x/2^16)<33:=by omega
  rw[d]
  cases hB:decide (256<=x/2^16)
  ·have h2:=af hB
   have a:x/2^16%256=x/2^16:=bKg (by omega)
   have c:x/2^16<256:=by omega
   simp (disch:=first|rfl|omega)only[S1,aC,aE,aM,aJ,zB,reduceCtorEq,b,hB,n8,n8i,aED,aDJ,aC3 (n:=16),a,aFy (j:=x/2^16) c]
   rw[bL1]
  ·have h2:=ae hB
   have a:x/2^16/2^8%256=x/2^16/2^8:=bKg (by omega)
   have e:=aG0 8 h2
   have c:x/2^16/2^8<256:=by omega
   simp (disch:=first|rfl|omega)only[S1,aC,aE,aM,aJ,zB,reduceCtorEq,zD,b,hB,n8,n8i,aED,aDJ,aC3 (n:=16),aC3 (n:=8),a,aFy (j:=x/2^16/2^8) c]
   rw[e]
   exact congrArg (fun n:Nat=>TV.int .i64 (n:Int)) (by omega)
theorem bDQ{x:Nat}(hx:x<4294967296):CC (VX (m+1)) 288 [.int .u32 (x:Nat)] (.int .i64 (blen x:Nat)):= .of (yP _ _) (aAQ _ _) (bEF hx)
theorem bDb:bO PG 245 f245 [2] []=true:=by kernel_rfl
theorem bHg{x:Nat}(hx:x<4294967296):VX (m+2) 245 [.int .u32 (x:Nat)]=some (.int .i64 ((32-blen x:Nat):Int),false):=by
 have c1:=bDQ (m:=m) hx
 have l:=aBT (k:=32) hx
 refine bX rfl func245 bDb rfl ?_
 simp only[f245,N1,bC,bF,bH,bG,bE,zB,zG]
 simp (disch:=first|rfl|omega)only[S1,aC,aE,aM,aJ,zB,reduceCtorEq,vJ 288 rfl,c1 _]
theorem bFU{x:Nat}(hx:x<4294967296):CC (VX (m+2)) 245 [.int .u32 (x:Nat)] (.int .i64 ((32-blen x:Nat):Int)):= .of (yP _ _) (aAQ _ _) (bHg hx)
end
end Ev
end Go.Proofs.YtmjoaipkaddkbaaGreatDoor
