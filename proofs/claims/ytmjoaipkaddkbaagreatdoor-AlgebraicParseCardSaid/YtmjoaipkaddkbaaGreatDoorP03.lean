/- Part of a proof. -/
import Derived.Test.YtmjoaipkaddkbaaGreatDoorP02
import Derived.Test.YtmjoaipkaddkbaaGreatDoorProg
import Derived.Laws.BitsAllLaws
import Derived.Laws.BitsLemmas
import Derived.WalkKit
noncomputable section
open Nat renaming reduceBEq → zB, reduceEqDiff → zC, reduceAdd → zD, reduceMul → zE, reduceSub → zF, reduceLT → zG, reduceLeDiff → zH
open Bool renaming and_self→bKr,false_eq_true→bJQ,or_false→bN0
open Int renaming le_of_lt→bNg,lt_or_gt_of_ne→bNm,lt_trichotomy→bMs,mul_ediv_cancel_left→bMp,mul_eq_zero→bMP,natAbs_mul→bKJ,natAbs_neg→bLJ,natCast_mul→bLa,not_lt→bLV,ofNat_dvd_left→bMM,sign_eq_neg_one_of_neg→bL5,sign_eq_one_of_pos→bL3,sign_mul→bNj
open List renaming append_nil→bKQ,cons_append→bKm,drop_eq_getElem_cons→bLx,drop_of_length_le→bLT,drop_set→bNb,drop_zero→bJV,elem_cons→bN5,eq_nil_of_length_eq_zero→bKB,flatten_cons→bLL,getD_cons_zero→bNc,getD_eq_getElem?_getD→bK0,getElem?_cons_succ→bM7,getElem?_cons_zero→bMF,getElem?_eq_getElem→bKO,getElem?_take→bKY,getElem?_toArray→bMd,getElem_mem→bLR,length_append→bJW,length_cons→bJN,length_drop→bK3,length_eq_zero_iff→bMK,length_map→bKo,length_nil→bKf,length_pos_iff→bKz,length_replicate→bKu,length_set→bKT,length_take→bJO,map_cons→bKc,map_nil→bMH,map_take→bMy,mem_cons→bJZ,replicate→bJL,replicate_succ→bL7,take_length→bKp,take_of_length_le→bJU,take_succ_cons→bLE,take_take→bKC,take_zero→bLq
open Nat renaming Coprime→bNi,add_assoc→bLO,add_comm→bL1,add_mul→bKw,add_mul_div_left→bMG,add_sub_cancel→bKs,add_zero→bKR,div_add_mod→bL2,div_eq_of_lt→bLl,div_le_self→bLb,div_lt_of_lt_mul→bLy,div_mul_le_self→bM8,div_one→bNk,div_pos→bML,eq_zero_or_pos→bLF,gcd_dvd_left→bMq,gcd_dvd_right→bMN,gcd_le_right→bNl,gcd_pos_of_pos_right→bMr,le_div_iff_mul_le→bLS,le_mul_of_pos_right→bM9,le_of_dvd→bMa,le_of_lt→bKb,le_of_not_lt→bLG,le_refl→bJE,le_trans→bJH,lt_of_le_of_lt→bK9,lt_of_lt_of_le→bJK,lt_or_ge→bJS,lt_succ_of_lt→bM5,lt_succ_self→bJT,lt_trans→bKV,min_eq_left→bK7,min_self→bNe,mod_eq_of_lt→bKg,mod_le→bMJ,mod_lt→bK6,mul_add→bK4,mul_assoc→bK1,mul_comm→bJR,mul_div_cancel→bL0,mul_div_cancel_left→bMO,mul_le_mul→bLh,mul_le_mul_left→bK5,mul_le_mul_right→bK8,mul_left_comm→bMI,mul_lt_mul''→bLA,mul_lt_mul_of_pos_right→bNd,mul_one→bKk,mul_pos→bKG,mul_zero→bLz,not_lt→bMo,not_lt_zero→bKM,one_mul→bLI,pow_add→bL4,pow_le_pow_right→bK2,pow_pos→bKt,pow_succ→bJX,strongRecOn→bLp,succ_mul→bKZ,two_pow_add_eq_or_of_lt→bN8,two_pow_pos→bMt,zero_add→bKi,zero_le→bJJ,zero_lt_one→bLU
open Option renaming bind_some→bJM,getD_some→bLt,map_some→bKe
open Go renaming IntKind→bR6,Operand→bR7
set_option maxRecDepth 10000000
open Go
open Go.Proofs.Tryz
namespace Go.Proofs.YtmjoaipkaddkbaaGreatDoor
namespace Ev
section
theorem aBQ{s:VS}{a b:TV}{l:List TV}(h:Can (a::b::l))(hs:bT (a::b::l)<=cL):dJ s (a::b::l)=some (.tp (a::b::l),false):=by
 have hc:=qR (s:=s) h.1 hs
 unfold dJ
 split
 ·rename_i e;cases e
 ·rename_i e;cases e
 ·rename_i e;cases e
 ·rename_i k off len sz Q L e
  cases e
  have:=h.1
  simp [dI,cI]at this
 ·rename_i h1 h2 p S
  rw[hc];simp only[bKe,h.2]
theorem aUj{t:TV}:nX true (t,false)=(t,false):=rfl
theorem aSH{t:TV}:nX true (.tp [t],true)=(t,false):=rfl
theorem aOV{s:VS}:dJ s [.nil]=some (.em,false):=rfl
section
variable {α:Type}{E:EC α}
theorem EC.row_ne{a:α}{l:List α}:E.row (a::l)≠ []:=fun e=>by
 have h:=E.row_len (a::l)
 have T:=E.pos
 rw[e,bJN,bKZ]at h
 simp only[bKf]at h
 omega
theorem EC.nrm_im(l:List α):iB (.im E.sz (E.row l))=E.t l:=by
 cases l with
 |nil=>
  show(if (E.row ([]:List α)).length=0/\0<E.sz then TV.em else .im E.sz (cG (E.row [])))=_
  rw[if_pos ⟨rfl,E.pos⟩];rfl
 |cons a l=>
  show(if (E.row (a::l)).length=0/\0<E.sz then TV.em else .im E.sz (cG (E.row (a::l))))=_
  rw[if_neg (fun h=>EC.row_ne (E:=E) (bKB h.1)),(E.row_can _).2]
  exact(aB8 (EC.row_ne (E:=E))).symm
theorem aQt{s:VS}{k len sz:Nat}{l:List α}(r:k<s.nxt)(d:s.ob k=⟨0,E.row l⟩)(H:len=l.length)(I:sz=E.sz)(hs:l.length*E.siz+1<=cL):(dJ s [.ow k 0 len sz]).map (nX true)=some (E.t l,false):=by
 subst H I
 have x:(E.row l).length=l.length*E.sz:=E.row_len l
 have hc:=qR (s:=s) (E.row_can l).1 (bJH (E.row_siz l) hs)
 simp only[dJ,d]
 split
 ·next h=>
  rw[bJV,bJU (by rw[x];exact bJE _),E.nrm_im]
  rfl
 ·next h=>
  cases l with
  |nil=>exact absurd ⟨r,trivial,rfl,by simp [EC.row]⟩ h
  |cons a l=>
   rw[if_pos ⟨trivial,r,trivial,x,E.pos⟩,hc]
   simp only[bJM,d,if_true,(E.row_can _).2]
   show some (nX true (.im E.sz (E.row (a::l)),true))=_
   rw[show E.t (a::l)= .im E.sz (E.row (a::l))from aB8 (EC.row_ne (E:=E))]
   rfl
theorem aFG{s:VS}{l:List α}:jC s E.sz (E.t l)=some (E.row l,l.length):=by
 cases l with
 |nil=>rfl
 |cons a l=>
  rw[show E.t (a::l)= .im E.sz (E.row (a::l))from aB8 (EC.row_ne (E:=E))]
  simp only[jC]
  rw[if_pos ⟨trivial,E.pos⟩,E.row_len,bL0 _ E.pos]
theorem aFI{s:VS}{k w:Nat}{l:List α}(r:k<s.nxt)(d:s.ob k=⟨w,E.row l⟩)(A:w≠2):jC s E.sz (.ow k 0 l.length E.sz)=some (E.row l,l.length):=by
 simp only[jC,d]
 rw[if_pos ⟨trivial,r,A⟩]
 simp only[jK,bKi,bJV]
 rw[if_pos (by rw[E.row_len];exact bJE _),bJU (by rw[E.row_len];exact bJE _)]
 rfl
variable {P:Program}{e:TypeId}
theorem aRH{s:VS}{k off len sz:Nat}{y:TV}(hc:dN P e=true)(g:jC s (aY P e) y=some ([],0)):gT P e s (.ow k off len sz) y=some (.ow k off len sz,s):=by simp [gT,hc,g]
theorem bE9{s:VS}{y:TV}(hc:dN P e=true)(g:jC s (aY P e) y=some ([],0)):gT P e s .nil y=some (.nil,s):=by simp [gT,hc,g]
theorem aCd{s:VS}{k len sz:Nat}{l l2:List α}{y:TV}(hc:dN P e=true)(hs:aY P e=E.sz)(g:jC s E.sz y=some (E.row l2,l2.length))(r:k<s.nxt)(d:s.ob k=⟨0,E.row l⟩)(H:len=l.length)(I:sz=E.sz)(h2:l2≠ [])(n1:l.length<=10000000)(D:l2.length<=10000000):
  gT P e s (.ow k 0 len sz) y=some (.ow s.nxt 0 (len+l2.length) E.sz,(s.set k ⟨2,[]⟩).new (E.row (l++l2))):=by
 subst H I
 have h0:l2.length≠0:=fun e=>h2 (bKB e)
 simp only[gT,hc,if_true,hs,g,bJM,if_neg h0]
 rw[if_pos ⟨D,E.row_one _⟩,if_pos ⟨trivial,trivial,r,by rw[d],by rw[d];exact E.row_len _,n1⟩,d,E.row_app]
theorem aGk{s:VS}{l2:List α}{y:TV}(hc:dN P e=true)(hs:aY P e=E.sz)(g:jC s E.sz y=some (E.row l2,l2.length))(h2:l2≠ [])(D:l2.length<=10000000):
  gT P e s .nil y=some (.ow s.nxt 0 l2.length E.sz,s.new (E.row l2)):=by
 have h0:l2.length≠0:=fun e=>h2 (bKB e)
 simp only[gT,hc,if_true,hs,g,bJM,if_neg h0]
 rw[if_pos ⟨D,E.row_one _⟩]
theorem aJf{s:VS}{k:Nat}{l:List α}(r:k<s.nxt)(d:s.ob k=⟨0,E.row l⟩){n:Nat}(hn:l.length*E.siz+1<=n):fE (n+1) s (.ow k 0 l.length E.sz)=some (.im E.sz (E.row l),s.set k ⟨1,E.row l⟩):=by
 unfold fE
 rw[if_pos ⟨r,by rw[d];exact fun h=>by cases h⟩,d]
 simp only
 have hc:jK (l.length*E.sz) 0 (E.row l)=some (E.row l):=by
  simp only[jK,bKi,bJV,E.row_len,bJE,if_true]
  rw[bJU (by rw[E.row_len];exact bJE _)]
 rw[hc]
 simp only[bJM]
 rw[(nC n).2 (E.row_can l).1 (bJH (E.row_siz l) hn)]
 rfl
def fV(E:EC α)(s:VS)(v:TV)(l:List α):Prop:=(v= .nil/\l=[])\/∃k,v= .ow k 0 l.length E.sz/\k<s.nxt/\s.ob k=⟨0,E.row l⟩
def Rest(s:VS)(v:TV)(s':VS):Prop:=s.nxt<=s'.nxt/\∀j,j<s.nxt->(∀o n z,v≠ .ow j o n z)->s'.ob j=s.ob j
theorem Rest.refl(s:VS)(v:TV):Rest s v s:=⟨bJE _,fun _ _ _=>rfl⟩
theorem fV.nil(s:VS):fV E s .nil []:= .inl ⟨rfl,rfl⟩
theorem fV.keep{s s':VS}{v:TV}{l:List α}(h:fV E s v l)(hn:s.nxt<=s'.nxt)(d:∀j,j<s.nxt->s'.ob j=s.ob j):fV E s' v l:=by
 rcases h with h|⟨k,h1,h2,p⟩
 ·exact .inl h
 ·exact .inr ⟨k,h1,bJK h2 hn,(d k h2).trans p⟩
theorem fV.step{s:VS}{v:TV}{l:List α}(h:fV E s v l)(a:α)(hc:dN P e=true)(hs:aY P e=E.sz)(n1:l.length<=10000000):
  ∃v' s',gT P e (s.new (E.c a)) v (.ow s.nxt 0 1 E.sz)=some (v',s')/\fV E s' v' (l++[a])/\Rest s v s':=by
 have u:E.row [a]=E.c a:=bKQ _
 have B:(s.new (E.c a)).ob s.nxt=⟨0,E.row [a]⟩:=by rw[u];exact if_pos rfl
 have g:=aFI (E:=E) (s:=s.new (E.c a)) (k:=s.nxt) (l:=[a]) (bJT _) B (by decide)
 have m:∀j,j<s.nxt->∀cs,(s.new cs).ob j=s.ob j:=fun j q cs=>if_neg (by omega)
 rcases h with ⟨rfl,rfl⟩|⟨k,rfl,h2,p⟩
 ·refine⟨_,_,aGk (E:=E) (l2:=[a]) hc hs g (fun e=>by cases e) (show(1:Nat)<=10000000 by decide),.inr ⟨s.nxt+1,rfl,bJT _,if_pos rfl⟩,by show s.nxt<=s.nxt+1+1;omega,fun j q _=> ?_⟩
  show(if j=s.nxt+1 then _ else(s.new (E.c a)).ob j)=_
  rw[if_neg (by omega)];exact m j q _
 ·have r:k<(s.new (E.c a)).nxt:=bM5 h2
  have C:(s.new (E.c a)).ob k=⟨0,E.row l⟩:=(m k h2 _).trans p
  refine⟨_,_,aCd (E:=E) (l:=l) (l2:=[a]) hc hs g r C rfl rfl (fun e=>by cases e) n1 (show(1:Nat)<=10000000 by decide),.inr ⟨s.nxt+1,by rw[bJW];rfl,bJT _,if_pos rfl⟩,by show s.nxt<=s.nxt+1+1;omega,fun j q J=> ?_⟩
  show(if j=s.nxt+1 then _ else(if j=k then _ else(s.new (E.c a)).ob j))=_
  rw[if_neg (by omega),if_neg (fun e=>J 0 l.length E.sz (by rw[e]))];exact m j q _
theorem fV.ret{s:VS}{v:TV}{l:List α}(h:fV E s v l)(hs:l.length*E.siz+1<=cL):(dJ s [v]).map (nX true)=some (E.t l,false):=by
 rcases h with ⟨rfl,rfl⟩|⟨k,rfl,h2,p⟩
 ·rfl
 ·exact aQt h2 p rfl rfl hs
theorem fV.close{s:VS}{v:TV}{l:List α}(h:fV E s v l){n:Nat}(hn:l.length*E.siz+1<=n):∃t s',fE (n+1) s v=some (t,s')/\iB t=E.t l/\Rest s v s':=by
 rcases h with ⟨rfl,rfl⟩|⟨k,rfl,h2,p⟩
 ·exact⟨_,_,rfl,rfl,bJE _,fun _ _ _=>rfl⟩
 ·refine⟨_,_,aJf h2 p hn,E.nrm_im l,bJE _,fun j _ J=>if_neg fun e=>J 0 l.length E.sz (by rw[e])⟩
structure fM(E:EC α)(i s:VS)(v:TV)(l:List α):Prop where
 bld:fV E s v l
 nx:i.nxt<=s.nxt
 ob:∀j,j<i.nxt->s.ob j=i.ob j
 new:∀j o n z,v= .ow j o n z->i.nxt<=j
theorem fM.nil(s:VS):fM E s s .nil []:=⟨.nil s,bJE _,fun _ _=>rfl,fun _ _ _ _ h=>by cases h⟩
theorem fM.step{i s:VS}{v:TV}{l:List α}(h:fM E i s v l)(a:α)(hc:dN P e=true)(hs:aY P e=E.sz)(n1:l.length<=10000000):
  ∃v' s',gT P e (s.new (E.c a)) v (.ow s.nxt 0 1 E.sz)=some (v',s')/\fM E i s' v' (l++[a]):=by
 have u:E.row [a]=E.c a:=bKQ _
 have B:(s.new (E.c a)).ob s.nxt=⟨0,E.row [a]⟩:=by rw[u];exact if_pos rfl
 have g:=aFI (E:=E) (s:=s.new (E.c a)) (k:=s.nxt) (l:=[a]) (bJT _) B (by decide)
 obtain⟨G,hn,d,A⟩:=h
 have m:∀j,j<s.nxt->∀cs,(s.new cs).ob j=s.ob j:=fun j q cs=>if_neg (by omega)
 rcases G with ⟨rfl,rfl⟩|⟨k,rfl,h2,p⟩
 ·refine⟨_,_,aGk (E:=E) (l2:=[a]) hc hs g (fun e=>by cases e) (show(1:Nat)<=10000000 by decide),.inr ⟨s.nxt+1,rfl,bJT _,if_pos rfl⟩,by show i.nxt<=s.nxt+1+1;omega,fun j q=> ?_,fun j o n z e=>by cases e;show i.nxt<=s.nxt+1;omega⟩
  show(if j=s.nxt+1 then _ else(s.new (E.c a)).ob j)=_
  rw[if_neg (by omega),m j (by omega)];exact d j q
 ·have r:k<(s.new (E.c a)).nxt:=bM5 h2
  have C:(s.new (E.c a)).ob k=⟨0,E.row l⟩:=(m k h2 _).trans p
  have K:=A k 0 l.length E.sz rfl
  refine⟨_,_,aCd (E:=E) (l:=l) (l2:=[a]) hc hs g r C rfl rfl (fun e=>by cases e) n1 (show(1:Nat)<=10000000 by decide),.inr ⟨s.nxt+1,by rw[bJW];rfl,bJT _,if_pos rfl⟩,by show i.nxt<=s.nxt+1+1;omega,fun j q=> ?_,fun j o n z e=>by cases e;show i.nxt<=s.nxt+1;omega⟩
  show(if j=s.nxt+1 then _ else(if j=k then _ else(s.new (E.c a)).ob j))=_
  rw[if_neg (by omega),if_neg (by omega),m j (by omega)];exact d j q
theorem fM.app{i s:VS}{v:TV}{l:List α}(h:fM E i s v l)(l2:List α)(hc:dN P e=true)(hs:aY P e=E.sz)(n1:l.length<=10000000)(D:l2.length<=10000000):
  ∃v' s',gT P e s v (E.t l2)=some (v',s')/\fM E i s' v' (l++l2):=by
 have g:=aFG (E:=E) (s:=s) (l:=l2)
 obtain⟨G,hn,d,A⟩:=h
 by_cases h0:l2=[]
 ·subst h0
  rw[bKQ]
  rcases G with ⟨rfl,rfl⟩|⟨k,rfl,h2,p⟩
  ·exact⟨_,_,bE9 hc (by rw[hs];exact g),.inl ⟨rfl,rfl⟩,hn,d,A⟩
  ·exact⟨_,_,aRH hc (by rw[hs];exact g),.inr ⟨k,rfl,h2,p⟩,hn,d,A⟩
 rcases G with ⟨rfl,rfl⟩|⟨k,rfl,h2,p⟩
 ·refine⟨_,_,aGk hc hs g h0 D,.inr ⟨s.nxt,rfl,bJT _,if_pos rfl⟩,by show i.nxt<=s.nxt+1;omega,fun j q=> ?_,fun j o n z e=>by cases e;show i.nxt<=s.nxt;omega⟩
  show(if j=s.nxt then _ else s.ob j)=_
  rw[if_neg (by omega)];exact d j q
 ·have K:=A k 0 l.length E.sz rfl
  refine⟨_,_,aCd (E:=E) (l:=l) (l2:=l2) hc hs g h2 p rfl rfl h0 n1 D,.inr ⟨s.nxt,by rw[bJW],bJT _,if_pos rfl⟩,by show i.nxt<=s.nxt+1;omega,fun j q=> ?_,fun j o n z e=>by cases e;show i.nxt<=s.nxt;omega⟩
  show(if j=s.nxt then _ else(if j=k then _ else s.ob j))=_
  rw[if_neg (by omega),if_neg (by omega)];exact d j q
section
variable {orc:cP}{f:FuncId}
theorem fV.call{s:VS}{v:TV}{l:List α}{ts:List TV}{R:TV}(h:fV E s v l)(F:Can ts)(hsz:bT ts<=1000)(hn:l.length*E.siz<=90000000)(d:orc f (E.t l::ts)=some (R,false)):∃s1 M,dC orc f (v::ts) s=some (R,s1)/\fF orc f (v::ts) s=some (R,M)/\Rest s v s1/\Rest s v M:=by
 obtain⟨t,s',L,O,N⟩:=h.close (n:=99999998) (by omega)
 have ec:cY cL s (v::ts)=some (t::ts,s'):=by
  show cY (99999999+1) s (v::ts)=_
  simp only[cY,L,bJM]
  rw[(nC 99999999).2 F.1 (by omega)]
  rfl
 have en:cG (t::ts)=E.t l::ts:=by simp only[cG,O,F.2]
 refine⟨s',if fX R then s else s', ?_, ?_,N, ?_⟩
 ·unfold dC
  rw[ec]
  simp only[bJM,en,d,bJQ,if_false]
 ·unfold fF
  rw[ec]
  simp only[bJM,en,d,bJQ,if_false]
  split<;>rfl
 ·split
  ·exact .refl s v
  ·exact N
end
end
end
end Ev
def val:List Nat->Nat
 | []=>0
 |x::xs=>x+4294967296*val xs
def bD(xs:List Nat):Prop:=∀x∈xs,x<4294967296
def cJ:List Nat->List Nat
 | []=>[]
 |x::xs=>if cJ xs=[]/\x=0 then []else x::cJ xs
def aO(n:Nat):List Nat:=if h:n=0 then []else(n%4294967296)::aO (n/4294967296)
 termination_by n
 decreasing_by omega
theorem gH:aO 0=[]:=by rw[aO];simp
theorem vG{n:Nat}(h:n≠0):aO n=(n%4294967296)::aO (n/4294967296):=by rw[aO];simp [h]
theorem bD.nil:bD []:=by intro x hx;cases hx
theorem bD.cons{x:Nat}{xs:List Nat}(h:x<4294967296)(hs:bD xs):bD (x::xs):=by
 intro y hy
 rcases bJZ.1 hy with rfl|hy
 ·exact h
 ·exact hs y hy
theorem bD.head{x:Nat}{xs:List Nat}(h:bD (x::xs)):x<4294967296:=h x (List.mem_cons_self ..)
theorem bD.tail{x:Nat}{xs:List Nat}(h:bD (x::xs)):bD xs:=fun y hy=>h y (List.mem_cons_of_mem _ hy)
theorem bD.take{xs:List Nat}(h:bD xs)(k:Nat):bD (xs.take k):=fun y hy=>h y (List.mem_of_mem_take hy)
theorem bD.drop{xs:List Nat}(h:bD xs)(k:Nat):bD (xs.drop k):=fun y hy=>h y (List.mem_of_mem_drop hy)
theorem bD.get{xs:List Nat}(h:bD xs){k:Nat}(a:k<xs.length):xs[k]<4294967296:=h _ (bLR a)
theorem bD.getD{xs:List Nat}(h:bD xs)(k:Nat):xs.getD k 0<4294967296:=by
 by_cases a:k<xs.length
 ·rw[bK0,bKO a];exact h.get a
 ·rw[bK0,List.getElem?_eq_none (by omega)];simp
theorem cU(n:Nat):bD (aO n):=by
 induction n using bLp with
 |_ n ih=>
  by_cases h:n=0
  ·subst h;rw[gH];exact bD.nil
  ·rw[vG h];exact bD.cons (by omega) (ih _ (by omega))
theorem cO(n:Nat):val (aO n)=n:=by
 induction n using bLp with
 |_ n ih=>
  by_cases h:n=0
  ·subst h;rw[gH];rfl
  ·rw[vG h,val,ih _ (by omega)];omega
theorem aN7(xs:List Nat):val (cJ xs)=val xs:=by
 induction xs with
 |nil=>rfl
 |cons x xs ih=>
  unfold cJ
  by_cases h:cJ xs=[]/\x=0
  ·rw[if_pos h];rw[h.1]at ih;simp [val]at ih ⊢;omega
  ·rw[if_neg h];simp [val,ih]
theorem iI{xs:List Nat}(h:bD xs):cJ xs=aO (val xs):=by
 induction xs with
 |nil=>simp [cJ,val,gH]
 | cons x xs ih=>
  have hx:=h.head
  have ih:=ih h.tail
  unfold cJ
  by_cases hc:cJ xs=[]/\x=0
  ·rw[if_pos hc]
   have h0:val xs=0:=by have:=aN7 xs;rw[hc.1]at this;simp [val]at this;omega
   simp [val,h0,hc.2,gH]
  ·rw[if_neg hc]
   have hn:val (x::xs)≠0:=by
    intro e
    apply hc
    simp only[val]at e
    have h0:val xs=0:=by omega
    exact⟨by rw[ih,h0,gH],by omega⟩
   rw[vG hn,ih]
   have i:val (x::xs)%4294967296=x:=by simp only[val];omega
   have l:val (x::xs)/4294967296=val xs:=by simp only[val];omega
   rw[i,l]
theorem aVF{xs:List Nat}(h:bD xs)(o:cJ xs=xs):aO (val xs)=xs:=by rw[←iI h,o]
theorem aDb(xs ys:List Nat):val (xs++ys)=val xs+4294967296^xs.length*val ys:=by
 induction xs with
 |nil=>simp [val]
 |cons x xs ih=>simp only[bKm,val,ih,bJN,bJX];rw[bK4,bJR (4294967296^xs.length) 4294967296,bK1];omega
theorem jE{xs:List Nat}(h:bD xs):val xs<4294967296^xs.length:=by
 induction xs with
 |nil=>simp [val]
 |cons x xs ih=>
  have hx:=h.head
  have ih:=ih h.tail
  simp only[val,bJN,bJX]
  have:4294967296*(val xs+1)<=4294967296*4294967296^xs.length:=bK5 _ ih
  rw[bJR (4294967296^xs.length)]
  omega
theorem qN(xs:List Nat):(cJ xs).length<=xs.length:=by
 induction xs with
 |nil=>simp [cJ]
 |cons x xs ih=>unfold cJ;split<;>simp<;>omega
theorem aMb{xs:List Nat}(h:bD xs):bD (cJ xs):=by rw[iI h];exact cU _
theorem aVJ(xs:List Nat):cJ (xs++[0])=cJ xs:=by
 induction xs with
 |nil=>simp [cJ]
 |cons x xs ih=>simp only[bKm,cJ,ih]
theorem aLy(xs:List Nat){x:Nat}(h:x≠0):cJ (xs++[x])=xs++[x]:=by
 induction xs with
 |nil=>simp [cJ,h]
 |cons y xs ih=>simp only[bKm,cJ,ih];simp
theorem aVM{x:Nat}{xs:List Nat}(h:cJ xs=[]/\x=0):cJ (x::xs)=[]:=by show(if cJ xs=[]/\x=0 then []else x::cJ xs)=[];rw[if_pos h]
theorem aWD{x:Nat}{xs:List Nat}(h:¬(cJ xs=[]/\x=0)):cJ (x::xs)=x::cJ xs:=by show(if cJ xs=[]/\x=0 then []else x::cJ xs)=_;rw[if_neg h]
theorem nA(xs:List Nat):cJ xs=xs.take (cJ xs).length:=by
 induction xs with
 |nil=>rfl
 |cons x xs ih=>
  by_cases h:cJ xs=[]/\x=0
  ·rw[aVM h];rfl
  ·rw[aWD h];simp only[bJN,bLE];rw[←ih]
theorem kJ(n:Nat):cJ (aO n)=aO n:=by rw[iI (cU n),cO]
theorem tA{n:Nat}:aO n=[]↔n=0:=by
 constructor
 ·intro h
  have:=cO n
  rw[h]at this
  simpa [val]using this.symm
 ·intro h;rw[h,gH]
theorem aIj{m n:Nat}(h:aO m=aO n):m=n:=by rw[←cO m,h,cO]
theorem lK{n k:Nat}(h:n<4294967296^k):(aO n).length<=k:=by
 induction k generalizing n with
 |zero=>
  have:n=0:=by simpa using h
  rw[this,gH];simp
 | succ k ih=>
  by_cases hn:n=0
  ·rw[hn,gH];simp
  ·rw[vG hn,bJN]
   have:n/4294967296<4294967296^k:=by
    rw[bJX,bJR]at h
    exact bLy h
   have:=ih this
   omega
theorem aLv{n k:Nat}(h:4294967296^k<=n):k<(aO n).length:=by
 induction k generalizing n with
 | zero=>
  have hn:n≠0:=by
   intro e;rw[e]at h;simp at h
  rw[vG hn];simp
 | succ k ih=>
  have p:0<4294967296^k:=bKt (by omega)
  have hn:n≠0:=by
   intro e;rw[e]at h
   have:=bKt (n:=k+1) (show 0<4294967296 by omega);omega
  rw[vG hn,bJN]
  have:4294967296^k<=n/4294967296:=by
   rw[bLS (by omega)]
   rw[bJX]at h;exact h
  have:=ih this
  omega
theorem aHH{m n:Nat}(h:(aO m).length<(aO n).length):m<n:=by
 rcases bJS m n with h1|h1
 ·exact h1
 ·exfalso
  by_cases hn:n=0
  ·rw[hn,gH]at h;simp at h
  ·have h3:4294967296^((aO n).length-1)<=n:=by
    rcases bJS n (4294967296^((aO n).length-1))with h2|h2
    ·have:=lK h2
     omega
    ·exact h2
   have:=aLv (bJH h3 h1)
   omega
theorem aI8(xs:List Nat){k:Nat}(a:k<xs.length):xs.take (k+1)=xs.take k++[xs.getD k 0]:=by
 rw[List.take_succ_eq_append_getElem a,bK0,bKO a];rfl
theorem xJ{xs:List Nat}{k:Nat}(a:k<xs.length)(h:xs.getD k 0=0):cJ (xs.take (k+1))=cJ (xs.take k):=by
 rw[aI8 xs a,h,aVJ]
theorem xK{xs:List Nat}{k:Nat}(a:k<xs.length)(h:xs.getD k 0≠0):(cJ (xs.take (k+1))).length=k+1:=by
 rw[aI8 xs a,aLy _ h,bJW,bJO];simp;omega
theorem aEM(xs:List Nat){k:Nat}(a:k<xs.length):val (xs.take (k+1))=val (xs.take k)+4294967296^k*xs.getD k 0:=by
 rw[aI8 xs a,aDb,bJO,bK7 (by omega)];simp [val]
theorem pG(xs:List Nat){j:Nat}(b:j<xs.length):val (xs.drop j)=xs.getD j 0+4294967296*val (xs.drop (j+1)):=by
 rw[bLx b,val,bK0,bKO b];rfl
theorem aWi{xs:List Nat}(h:bD xs)(j:Nat):val (xs.drop j)<4294967296^(xs.length-j):=by
 have:=jE (h.drop j)
 rwa [bK3]at this
theorem aVV{xs:List Nat}(h:bD xs){j:Nat}(b:xs.length<=j+1):val (xs.drop j)<4294967296:=by
 have:=aWi h j
 have h2:xs.length-j<=1:=by omega
 rcases bJS (xs.length-j) 1 with h3|h3
 ·have g:xs.length-j=0:=by omega
  rw[g]at this;simp at this;omega
 ·have g:xs.length-j=1:=by omega
  rw[g]at this;simpa using this
theorem aAk(xs:List Nat){j:Nat}(b:j<xs.length):xs.drop j=xs.getD j 0::xs.drop (j+1):=by
 rw[bLx b,bK0,bKO b];rfl
theorem pB(xs:List Nat)(j:Nat)(b:j<=xs.length):val xs=val (xs.take j)+4294967296^j*val (xs.drop j):=by
 have:=aDb (xs.take j) (xs.drop j)
 rw[List.take_append_drop,bJO,bK7 b]at this
 exact this
theorem aLz{xs ys:List Nat}(hx:bD xs){j:Nat}(f:xs.length=ys.length)(b:j<xs.length)(d:xs.drop (j+1)=ys.drop (j+1))(c:xs.getD j 0<ys.getD j 0):val xs<val ys:=by
 rw[pB xs j (by omega),pB ys j (by omega),pG xs b,pG ys (by omega),d]
 have h1:val (xs.take j)<4294967296^j:=by
  have:=jE (hx.take j)
  rwa [bJO,bK7 (by omega)]at this
 have h2:4294967296^j*(xs.getD j 0+1+4294967296*val (ys.drop (j+1)))<=4294967296^j*(ys.getD j 0+4294967296*val (ys.drop (j+1))):=bK5 _ (by omega)
 have h3:4294967296^j*(xs.getD j 0+1+4294967296*val (ys.drop (j+1)))=4294967296^j*(xs.getD j 0+4294967296*val (ys.drop (j+1)))+4294967296^j:=by
  rw[show xs.getD j 0+1+4294967296*val (ys.drop (j+1))=(xs.getD j 0+4294967296*val (ys.drop (j+1)))+1 by omega,bK4,bKk]
 omega
def nQ(xs ys:List Nat):Int:=if xs.length<ys.length then-1 else if ys.length<xs.length then 1 else if val xs<val ys then-1 else if val ys<val xs then 1 else 0
theorem aMd{xs ys:List Nat}(h:xs.length<ys.length):nQ xs ys= -1:=by unfold nQ;rw[if_pos h]
theorem aN1{xs ys:List Nat}(h:ys.length<xs.length):nQ xs ys=1:=by unfold nQ;rw[if_neg (by omega),if_pos h]
theorem aN5{xs ys:List Nat}(hx:bD xs){j:Nat}(f:xs.length=ys.length)(b:j<xs.length)(d:xs.drop (j+1)=ys.drop (j+1))(c:xs.getD j 0<ys.getD j 0):nQ xs ys= -1:=by
 have:=aLz hx f b d c
 unfold nQ;rw[if_neg (by omega),if_neg (by omega),if_pos this]
theorem aNr{xs ys:List Nat}(hy:bD ys){j:Nat}(f:xs.length=ys.length)(b:j<xs.length)(d:xs.drop (j+1)=ys.drop (j+1))(c:ys.getD j 0<xs.getD j 0):nQ xs ys=1:=by
 have:=aLz hy f.symm (by omega) d.symm c
 unfold nQ;rw[if_neg (by omega),if_neg (by omega),if_neg (by omega),if_pos this]
theorem aNn(xs:List Nat):nQ xs xs=0:=by unfold nQ;simp
theorem aHY(m n:Nat):nQ (aO m) (aO n)=if m<n then-1 else if n<m then 1 else 0:=by
 unfold nQ
 rw[cO,cO]
 by_cases h1:(aO m).length<(aO n).length
 ·rw[if_pos h1,if_pos (aHH h1)]
 ·rw[if_neg h1]
  by_cases h2:(aO n).length<(aO m).length
  ·have:=aHH h2
   rw[if_pos h2,if_neg (by omega),if_pos this]
  ·rw[if_neg h2]
theorem aJu{xs:List Nat}{j:Nat}(m:j<xs.length)(y:Nat):val (xs.set j y)+4294967296^j*xs.getD j 0=val xs+4294967296^j*y:=by
 have d:(xs.set j y).take j=xs.take j:=by rw[List.take_set_of_le (by omega)]
 have l:(xs.set j y).drop j=y::xs.drop (j+1):=by
  rw[aAk _ (by simp;omega),bNb,if_pos (by omega)]
  congr 1
  rw[bK0,List.getElem?_set_self (by omega)];rfl
 rw[pB (xs.set j y) j (by simp;omega),d,l,pB xs j (by omega),pG xs m,val]
 rw[bK4,bK4]
 omega
theorem vE{xs:List Nat}{j:Nat}(m:j<xs.length)(y:Nat):(xs.set j y).getD j 0=y:=by
 rw[bK0,List.getElem?_set_self (by omega)];rfl
theorem getD_set_ne{xs:List Nat}{i j:Nat}(h:i≠j)(y:Nat):(xs.set i y).getD j 0=xs.getD j 0:=by
 rw[bK0,List.getElem?_set_ne h,bK0]
theorem xI(n j:Nat):(bJL n 0).getD j 0=0:=by
 rw[bK0,List.getElem?_replicate];split<;>rfl
theorem aHK(n:Nat):val (bJL n 0)=0:=by
 induction n with
 |zero=>rfl
 |succ n ih=>rw[bL7,val,ih]
theorem getD_take{xs:List Nat}{i j:Nat}(h:j<i):(xs.take i).getD j 0=xs.getD j 0:=by
 rw[bK0,bKY,if_pos h,bK0]
theorem qQ{xs:List Nat}{j:Nat}(h:xs.length<=j):xs.getD j 0=0:=by
 rw[bK0,List.getElem?_eq_none h];rfl
def blen(x:Nat):Nat:=if h:x=0 then 0 else blen (x/2)+1
 termination_by x
 decreasing_by omega
theorem aBz:blen 0=0:=by rw[blen];simp
theorem aAt{x:Nat}(h:x≠0):blen x=blen (x/2)+1:=by rw[blen];simp [h]
theorem aLu(x:Nat):x<2^blen x:=by
 induction x using bLp with
 | _ x ih=>
  by_cases h:x=0
  ·rw[h,aBz];simp
  ·have:=ih (x/2) (by omega)
   rw[aAt h,bJX];omega
theorem aLs{x:Nat}(h:x≠0):2^(blen x-1)<=x:=by
 induction x using bLp with
 | _ x ih=>
  rw[aAt h,bKs]
  by_cases h2:x/2=0
  ·rw[h2,aBz];simp;omega
  ·have:=ih (x/2) (by omega) h2
   rw[aAt h2]at this ⊢
   rw[bKs]at this
   rw[bJX];omega
theorem aBT{x k:Nat}(h:x<2^k):blen x<=k:=by
 by_cases h0:x=0
 ·rw[h0,aBz];omega
 ·rcases bJS k (blen x)with h1|h1
  ·have h2:=aLs h0
   have f:2^k<=2^(blen x-1):=bK2 (by omega) (by omega)
   omega
  ·exact h1
theorem aHJ{s:Nat}(hs:s<=32):2^s*2^(32-s)=4294967296:=by
 rw[←bL4,show s+(32-s)=32 by omega]
theorem bAz{x c s:Nat}(hs:s<32)(hx:x<4294967296)(hc:c<2^s):
  c+(x*2^s)%4294967296<4294967296/\(x*2^s)/4294967296<2^s/\c+(x*2^s)%4294967296+4294967296*((x*2^s)/4294967296)=c+x*2^s:=by
 have b:=aHJ (s:=s) (by omega)
 have h0:0<2^s:=bKt (by omega)
 have e:(x*2^s)%4294967296=2^s*(x%2^(32-s)):=by
  rw[←b,bJR x,Nat.mul_mod_mul_left]
 have h1:x%2^(32-s)<2^(32-s):=bK6 _ (bKt (by omega))
 refine⟨?_, ?_,by omega⟩
 ·rw[e]
  have h2:2^s*(x%2^(32-s)+1)<=2^s*2^(32-s):=bK5 _ h1
  rw[bK4]at h2
  omega
 ·apply bLy
  rw[bJR 4294967296,bJR x]
  exact Nat.mul_lt_mul_of_pos_left hx h0
theorem aSr{x c s:Nat}(hs:s<32)(hc:c<2^s):c|||(x*2^s)%4294967296=c+(x*2^s)%4294967296:=by
 have b:=aHJ (s:=s) (by omega)
 have e:(x*2^s)%4294967296=2^s*(x%2^(32-s)):=by
  rw[←b,bJR x,Nat.mul_mod_mul_left]
 rw[e,Nat.or_comm,←bN8 hc,bL1]
def rA(xs:List Nat)(s j:Nat):Nat:=((xs.getD j 0+4294967296*xs.getD (j+1) 0)/2^s)%4294967296
def nK(s:Nat):List Nat->List Nat
 | []=>[]
 |x::xs=>((x+4294967296*xs.getD 0 0)/2^s)%4294967296::nK s xs
theorem aHN(s:Nat)(xs:List Nat):(nK s xs).length=xs.length:=by
 induction xs with
 |nil=>rfl
 |cons x xs ih=>simp [nK,ih]
theorem aMD(s:Nat)(xs:List Nat):∀j,j<xs.length->(nK s xs).getD j 0=rA xs s j:=by
 induction xs with
 |nil=>intro j h;simp at h
 | cons x xs ih=>
  intro j h
  cases j with
  |zero=>simp [nK,rA]
  |succ j=>
   have:=ih j (by simpa using h)
   simp only[nK,List.getD_cons_succ,this,rA]
theorem aMu(s:Nat)(xs:List Nat):bD (nK s xs):=by
 induction xs with
 |nil=>exact bD.nil
 |cons x xs ih=>exact bD.cons (bK6 _ (by omega)) ih
theorem aNh{s:Nat}(hs:s<32){xs:List Nat}(h:bD xs):val (nK s xs)=val xs/2^s:=by
 have b:=aHJ (s:=s) (by omega)
 have h0:0<2^s:=bKt (by omega)
 induction xs with
 |nil=>simp [nK,val]
 | cons x xs ih=>
  have hx:=h.head
  have ih:=ih h.tail
  simp only[nK,val,ih]
  generalize C:2^s=P at*
  generalize p:2^(32-s)=Q at*
  have q:0<Q:=by rw[←p];exact bKt (by omega)
  have d:∀y,(x+4294967296*y)/P=x/P+Q*y:=fun y=>by
   rw[←b,bK1,bMG _ _ h0]
  have r:x/P<Q:=bLy (by rw[b];exact hx)
  have l:(x/P+Q*xs.getD 0 0)%4294967296=x/P+Q*(xs.getD 0 0%P):=by
   have t:Q*xs.getD 0 0=4294967296*(xs.getD 0 0/P)+Q*(xs.getD 0 0%P):=by
    have f:=bL2 (xs.getD 0 0) P
    generalize xs.getD 0 0/P=A at*
    generalize xs.getD 0 0%P=B at*
    rw[←f,←b,bK4,←bK1,bJR Q P]
   have D:Q*(xs.getD 0 0%P)+Q<=4294967296:=by
    have u:xs.getD 0 0%P+1<=P:=bK6 _ h0
    have o:=bK5 Q u
    rw[bK4,bKk,bJR Q P,b]at o
    exact o
   rw[t]
   generalize x/P=a at*
   generalize xs.getD 0 0/P=g at*
   generalize Q*(xs.getD 0 0%P)=i at*
   omega
  have v:val xs%P=xs.getD 0 0%P:=by
   cases xs with
   |nil=>simp [val]
   |cons y ys=>simp only[val,bNc];rw[←b,bK1,Nat.add_mul_mod_self_left]
  rw[d,d,l,←v]
  have f:=bL2 (val xs) P
  generalize val xs/P=A at*
  generalize val xs%P=B at*
  rw[←f,←b,bK4,←bK1,bJR Q P]
  omega
theorem aFA{xs ys:List Nat}(w:xs.length=ys.length)(h:∀j,j<xs.length->xs.getD j 0=ys.getD j 0):xs=ys:=by
 apply List.ext_getElem w
 intro j h1 h2
 have:=h j h1
 rwa [bK0,bKO h1,bK0,bKO h2]at this
theorem aLw{xs:List Nat}{k:Nat}(h:xs.length<=k):val (xs.take k)=val xs:=by rw[bJU h]
theorem nZ(ys:List Nat)(k:Nat):val (ys.take (k+1))=val (ys.take k)+4294967296^k*ys.getD k 0:=by
 by_cases h:k<ys.length
 ·exact aEM ys h
 ·rw[aLw (by omega),aLw (by omega),qQ (by omega)];omega
theorem aEN{zs:List Nat}{k y:Nat}(z:k<zs.length):val ((zs.set k y).take (k+1))=val (zs.take k)+4294967296^k*y:=by
 rw[nZ,vE z,List.take_set_of_le (by omega)]
namespace Ev
section
noncomputable abbrev PG:Program:=prog
def aEo:List Nat:=[94,246,247,248,65,148,147]
def aUB:List Nat:=[73,154,151,155,153,156,70,69,26,27,232,163,25,209,138,208,134,54,91,207,127,89]
def aEf:List Nat:=[178,35,106,130,29,30,31,36,33,37,5,264]
def bZ:mB:=⟨fun f=>aEo.elem f,fun f=>aUB.elem f,fun f=>aEf.elem f⟩
def aCo:TV->Option Nat
 | .int .u32 (.ofNat n)=>if n<4294967296 then some n else none
 |_=>none
def sK:TV->Option (List Nat)
 | .em=>some []
 | .im 1 cs=>cs.mapM aCo
 |_=>none
def aDV:List TV->Option (TV×Bool)
 | [t]=>(sK t).bind fun xs=>if xs.length<=2 then some (.int .u64 (val xs:Nat),false)else none
 |_=>none
def aGB:List Nat:=[93,113]
def aRA:List TV->Option (TV×Bool)
 | [.em]=>some (.em,false)
 |_=>none
def xD:cP:=fun f args=>bif Nat.beq f 178 then aDV args else bif aGB.elem f then aRA args else none
abbrev VX:Nat->cP:=fY PG bZ xD
theorem dB{n:Nat}(h:n<10000000):n<sC:=bKV h (by decide)
theorem eW:cW PG 45=some 100:=by kernel_rfl
theorem s1:aY PG 100=1:=by kernel_rfl
theorem k1:dG PG 100=true:=by kernel_rfl
theorem a1:jZ PG 100=false:=by kernel_rfl
theorem c1:dN PG 100=true:=by kernel_rfl
theorem z1:pO PG 100=some [.int .u32 ((0:Nat):Int)]:=by kernel_rfl
theorem aW:jZ PG 45=false:=by kernel_rfl
theorem kW:dG PG 45=true:=by kernel_rfl
theorem kB':dG PG 4=true:=by kernel_rfl
theorem aB:jZ PG 4=false:=by kernel_rfl
theorem fI0:lI PG 47 0=some (0,4):=by kernel_rfl
theorem fI1:lI PG 47 1=some (1,45):=by kernel_rfl
theorem zI:pO PG 47=some [.b false,.nil]:=by kernel_rfl
theorem bI:aAi PG 47=true:=by kernel_rfl
theorem pI0:qW PG 47 0=some (0,1):=by kernel_rfl
theorem pI1:qW PG 47 1=some (1,1):=by kernel_rfl
theorem kI:dG PG 47=true:=by kernel_rfl
theorem aI:jZ PG 47=true:=by kernel_rfl
theorem sI:aY PG 47=2:=by kernel_rfl
theorem fR0:lI PG 78 0=some (0,47):=by kernel_rfl
theorem fR1:lI PG 78 1=some (2,47):=by kernel_rfl
theorem zR:pO PG 78=some [.b false,.nil,.b false,.nil]:=by kernel_rfl
theorem bR':aAi PG 78=true:=by kernel_rfl
theorem pR0:qW PG 78 0=some (0,2):=by kernel_rfl
theorem pR1:qW PG 78 1=some (2,2):=by kernel_rfl
theorem kR:dG PG 78=true:=by kernel_rfl
theorem aR:jZ PG 78=true:=by kernel_rfl
theorem sR:aY PG 78=4:=by kernel_rfl
theorem xF:dN PG 78=true:=by kernel_rfl
theorem eR:cW PG 35=some 78:=by kernel_rfl
theorem cB':dN PG 4=true:=by kernel_rfl
theorem cW':dN PG 45=true:=by kernel_rfl
theorem cI':dN PG 47=true:=by kernel_rfl
theorem sB':aY PG 4=1:=by kernel_rfl
theorem sW':aY PG 45=1:=by kernel_rfl
theorem n64:nP PG 100 103=some .u64:=by kernel_rfl
theorem n32:nP PG 103 100=some .u32:=by kernel_rfl
theorem aUT:nP PG 103 2=some .i64:=by kernel_rfl
theorem aUt:nP PG 2 103=some .u64:=by kernel_rfl
theorem nii:nP PG 3 2=some .i64:=by kernel_rfl
def wc(x:Nat):TV:= .int .u32 (x:Int)
def tW(xs:List Nat):TV:=tL 1 (xs.map wc)
theorem aGg(x:Nat):cQ (wc x):=cQ.int _ _
theorem jF(xs:List Nat):cQ (tW xs):=cQ.tL (by decide) (Can.map aGg xs)
theorem aEa{xs:List Nat}:(tW xs).one=true:=aGe
theorem aFs{xs:List Nat}:(tW xs).cells=[tW xs]:=aFz
theorem bHS(sz:Nat)(cs:List TV):cV (tL sz cs)=1:=by cases cs<;>rfl
theorem fK(xs:List Nat):cV (tW xs)=1:=bHS _ _
theorem aSG{s:VS}{xs:List Nat}:dJ s [tW xs]=some (tW xs,false):=tN (jF xs) (by rw[fK];decide)
theorem aT6{s:VS}{x:Bool}:dJ s [.b x]=some (.b x,false):=tN (cQ.b x) (by simp only[cV];decide)
theorem aSI{s:VS}{k:bR6}{x:Int}:dJ s [.int k x]=some (.int k x,false):=tN (cQ.int k x) (by simp only[cV];decide)
def ci(n:Bool)(xs:List Nat):List TV:=[.b n,tW xs]
theorem aGo(n:Bool)(xs:List Nat):Can (ci n xs):=Can.cons (cQ.b n) (Can.cons (jF xs) Can.nil)
theorem aQX{s:VS}{n:Bool}{xs:List Nat}:dJ s [.ag [.b n,tW xs]]=some (.ag (ci n xs),false):=tN (cQ.ag (aGo n xs)) (by simp only[cV,bT,fK];decide)
theorem aS2{xs:List Nat}:jW PG 45 (tW xs)=some (.int .i64 (xs.length:Nat)):=by unfold tW;rw[aRv eW s1 (by decide)];simp
theorem aOt{xs:List Nat}{j:Nat}(h:j<xs.length):mI PG 45 (tW xs) j=some (.pi (xs.map wc) j):=by
 unfold tW;rw[aNW eW k1 s1 (by decide) (by simp;omega)];simp
theorem aQQ{xs:List Nat}{j:Nat}{s:VS}(h:j<xs.length):kP PG 100 s (.pi (xs.map wc) j)=some (.int .u32 (xs.getD j 0:Nat)):=by
 rw[aI6 a1];simp [h,wc,bK0]
theorem aTQ(n:Nat):(bJL n [TV.int .u32 ((0:Nat):Int)]).flatten=(bJL n 0).map wc:=by
 induction n with
 |zero=>rfl
 |succ n ih=>rw[bL7,bLL,ih,bL7,bKc];rfl
theorem aMO{k off len j:Nat}(h:j<len):mI PG 45 (.ow k off len 1) j=some (.po k (off+j)):=by
 simp only[mI,eW,k1,if_true,s1];rw[if_pos ⟨trivial,h⟩,bKk]
theorem aR4{k off len sz:Nat}:jW PG 45 (.ow k off len sz)=some (.int .i64 (len:Nat)):=by simp [jW,eW]
theorem aMn{r:bB}{k off len:Nat}{i:Option bR7}:jB PG 45 r (.ow k off len 1) none i none=(eL r len i).bind fun h=>if h<=len then some (.ow k off h 1)else none:=by
 simp only[jB,eW,k1,if_true,s1,eL,bJM]
 congr 1;funext h
 by_cases hh:h<=len
 ·rw[if_pos ⟨bJJ _,hh⟩,if_pos hh]
  by_cases h0:0=h
  ·rw[if_pos h0,h0]
  ·rw[if_neg h0];simp
 ·rw[if_neg (fun h=>hh h.2),if_neg hh]
theorem aOc{r:bB}{k off len:Nat}{lo:bR7}{i:Option bR7}:jB PG 45 r (.ow k off len 1) (some lo) i none=(eL r 0 (some lo)).bind fun l=>(eL r len i).bind fun h=>if l<=h/\h<=len then(if l=h then(if l=0 then some (.ow k off 0 1)else some .em)else some (.ow k (off+l) (h-l) 1))else none:=by
 simp only[jB,eW,k1,if_true,s1,bKk]
theorem aU5{zs:List Nat}{j:Nat}(h:j<zs.length):(zs.map wc)[j]? =some (.int .u32 (zs.getD j 0:Nat)):=by simp [h,wc,bK0]
theorem aS0{zs:List Nat}{j x:Nat}(h:j<zs.length):hH [.int .u32 (x:Nat)] j (zs.map wc)=some ((zs.set j x).map wc):=by
 have c:(zs.map wc).length=zs.length:=bKo _
 simp only[hH,bJN,bKf,c]
 rw[if_pos (by omega)]
 congr 1
 rw[List.map_set,List.set_eq_take_append_cons_drop,if_pos (by rw[c];omega)]
 simp [wc]
theorem aG1{zs:List Nat}:(zs.map wc).length=zs.length:=bKo _
theorem bBF(zs:List Nat):dI (zs.map wc)=true:=(Can.map aGg zs).1
theorem bIo(zs:List Nat):cG (zs.map wc)=zs.map wc:=(Can.map aGg zs).2
theorem bIc(zs:List Nat):bT (zs.map wc)=2*zs.length+1:=by
 induction zs with
 |nil=>rfl
 |cons z zs ih=>simp only[bKc,bT,ih,bJN,wc,cV];omega
theorem aTn(zs:List Nat):lA (zs.map wc)=true:=by
 induction zs with
 |nil=>rfl
 |cons z zs ih=>simp only[bKc,lA,ih,wc,fX,bKr]
theorem yQ{zs:List Nat}:iB (.im 1 (zs.map wc))=tW zs:=by
 cases zs with
 |nil=>rfl
 |cons z zs=>
  show(if ((z::zs).map wc).length=0/\0<1 then TV.em else .im 1 (cG ((z::zs).map wc)))=_
  rw[if_neg (by simp),bIo];rfl
theorem aFU{s:VS}{k off len:Nat}{zs:List Nat}(g:k<s.nxt)(d:s.ob k=⟨0,zs.map wc⟩)(c:off+len<=zs.length):dJ s [.ow k off len 1]=some (.tp [tW ((zs.drop off).take len)],true):=by
 simp only[dJ,d]
 rw[if_pos ⟨g,trivial,aTn _,by rw[aG1];omega⟩,bKk,←List.map_drop,←bMy,yQ]
theorem xZ{s:VS}{k off len:Nat}{zs:List Nat}(g:k<s.nxt)(d:s.ob k=⟨0,zs.map wc⟩)(c:off+len<=zs.length)(m:len<40000000){n:Nat}(hn:90000000<=n):fE n s (.ow k off len 1)=some (.im 1 (((zs.drop off).take len).map wc),s.set k ⟨1,zs.map wc⟩):=by
 obtain⟨n,rfl⟩:∃j,n=j+1:=⟨n-1,by omega⟩
 unfold fE
 rw[if_pos ⟨g,by rw[d];exact fun h=>by cases h⟩,d]
 simp only
 have hc:jK (len*1) off (zs.map wc)=some (((zs.drop off).take len).map wc):=by
  simp only[jK,bKk,aG1,bMy,List.map_drop]
  rw[if_pos (by omega)]
 rw[hc]
 simp only[bJM]
 rw[(nC n).2 (bBF _) (by rw[bIc,bJO,bK3];omega)]
 rfl
theorem aP9{r:bB}{xs:List Nat}{lo i:Option bR7}:jB PG 45 r (tW xs) lo i none=(eL r 0 lo).bind fun l=>(eL r xs.length i).bind fun h=>if l<=h/\h<=xs.length then some (tW ((xs.drop l).take (h-l)))else none:=by
 cases xs with
 | nil=>
  simp only[tW,tL,jB,eW,k1,if_true,bMH,bKf]
  congr 1;funext l;congr 1;funext h
  by_cases hh:h=0
  ·subst hh
   by_cases c:l=0
   ·subst c;simp
   ·rw[if_neg (by omega),if_neg (by omega)]
  ·rw[if_neg (by omega),if_neg (by omega)]
 |cons x xs=>
  have e:tW (x::xs)= .im 1 ((x::xs).map wc):=rfl
  have C:((x::xs).map wc).length/1=(x::xs).length:=by simp
  rw[e]
  simp only[jB,eW,k1,if_true,s1,C]
  rw[if_pos ⟨trivial,by decide⟩]
  congr 1;funext l;congr 1;funext h
  simp only[bKk,bKo,tW,bMy,List.map_drop]
theorem oY{n:Nat}{s s1 y:VS}{a a':TV}{l A:List TV}(h1:fE n s a=some (a',s1))(h2:cY n s1 l=some (A,y)):cY (n+1) s (a::l)=some (a'::A,y):=by
 simp only[cY,h1,bJM,h2,bKe]
theorem aPB{n:Nat}{s:VS}{xs:List Nat}:fE (n+1) s (tW xs)=some (tW xs,s):=(nC (n+1)).1 (jF xs).1 (by rw[fK];omega)
def RS(q:Option (TV×Bool))(R:TV):Prop:=q=some (.tp [R],true)\/(q=some (R,false)/\fX R=true)
theorem RS.fr{R:TV}:RS (some (.tp [R],true)) R:= .inl rfl
theorem RS.sc{R:TV}(h:fX R=true):RS (some (R,false)) R:= .inr ⟨rfl,h⟩
theorem aFl{f:FuncId}{orc:cP}{R:TV}{s s1:VS}{args args' args2:List TV}(h1:cY cL s args=some (args',s1))(h2:cG args'=args2)(hc:RS (orc f args2) R):fF orc f args s=some (R,s):=by
 unfold fF
 rw[h1]
 simp only[bJM,h2]
 rcases hc with hc|⟨hc,hs⟩
 ·simp only[hc,bJM,if_true,oV]
 ·simp only[hc,bJM,bJQ,if_false,hs,if_true]
section
variable {f:FuncId}{orc:cP}{R:TV}{s:VS}{k off len:Nat}{zs ys:List Nat}
theorem aPY(hc:RS (orc f [tW ((zs.drop off).take len),tW ys]) R)(g:k<s.nxt)(d:s.ob k=⟨0,zs.map wc⟩)(c:off+len<=zs.length)(m:len<40000000):fF orc f [.ow k off len 1,tW ys] s=some (R,s):=
 aFl (oY (xZ g d c m (by decide)) (oY (n:=99999998) aPB rfl)) (by simp only[cG,yQ,(jF ys).2]) hc
theorem bAR{k2 off2 len2:Nat}(hc:RS (orc f [tW ((zs.drop off).take len),tW ((ys.drop off2).take len2)]) R)(g:k<s.nxt)(d:s.ob k=⟨0,zs.map wc⟩)(c:off+len<=zs.length)(m:len<40000000)(o:k2<s.nxt)(p:s.ob k2=⟨0,ys.map wc⟩)(u:off2+len2<=ys.length)(v:len2<40000000)(w:k2≠k):fF orc f [.ow k off len 1,.ow k2 off2 len2 1] s=some (R,s):=
 aFl (oY (xZ g d c m (by decide)) (oY (n:=99999998) (xZ (s:=s.set k ⟨1,zs.map wc⟩) o ((if_neg w).trans p) u v (by decide)) rfl)) (by simp only[cG,yQ]) hc
theorem bA9{t:TV}(hc:RS (orc f [tW ((zs.drop off).take len),t]) R)(g:k<s.nxt)(d:s.ob k=⟨0,zs.map wc⟩)(c:off+len<=zs.length)(m:len<40000000)(B:cQ t)(hs:cV t<=10000000):fF orc f [.ow k off len 1,t] s=some (R,s):=
 aFl (oY (xZ g d c m (by decide)) (oY (n:=99999998) ((nC 99999998).1 B.1 (by omega)) rfl)) (by simp only[cG,yQ,B.2]) hc
theorem aOT(hc:RS (orc f [tW ys,tW ((zs.drop off).take len)]) R)(g:k<s.nxt)(d:s.ob k=⟨0,zs.map wc⟩)(c:off+len<=zs.length)(m:len<40000000):fF orc f [tW ys,.ow k off len 1] s=some (R,s):=
 aFl (oY (n:=99999999) aPB (oY (n:=99999998) (xZ g d c m (by decide)) rfl)) (by simp only[cG,yQ,(jF ys).2]) hc
end
theorem TT:type_of%(ab @cB' (ab @cW' (ab @cI' (ab @sB' (ab @sW' (ab @aMn (ab @aOc (ab @n64 (ab @n32 (ab @aUT (ab @aUt (ab @nii (ab @k1 (ab @kW (ab @kB' (ab @kI (ab @kR (ab @eW (ab @eR (ab @s1 (ab @sI (ab @sR (ab @a1 (ab @aW (ab @aB (ab @aI (ab @aR (ab @c1 (ab @xF (ab @z1 (ab @zI (ab @zR (ab @fI0 (ab @fI1 (ab @fR0 (ab @fR1 (ab @bI (ab @bR' (ab @pI0 (ab @pI1 (ab @pR0 (ab @pR1 (ab @aMO (ab @aR4 (ab @aU5 (ab @aS0 (ab @aG1 (ab @aTQ (ab @aOt (ab @aQQ (ab @aP9 (ab @aS2 (ab @aSG (ab @aT6 (ab @aSI (ab @aQX (ab @aEa (@aFs)))))))))))))))))))))))))))))))))))))))))))))))))))))))))):=(ab @cB' (ab @cW' (ab @cI' (ab @sB' (ab @sW' (ab @aMn (ab @aOc (ab @n64 (ab @n32 (ab @aUT (ab @aUt (ab @nii (ab @k1 (ab @kW (ab @kB' (ab @kI (ab @kR (ab @eW (ab @eR (ab @s1 (ab @sI (ab @sR (ab @a1 (ab @aW (ab @aB (ab @aI (ab @aR (ab @c1 (ab @xF (ab @z1 (ab @zI (ab @zR (ab @fI0 (ab @fI1 (ab @fR0 (ab @fR1 (ab @bI (ab @bR' (ab @pI0 (ab @pI1 (ab @pR0 (ab @pR1 (ab @aMO (ab @aR4 (ab @aU5 (ab @aS0 (ab @aG1 (ab @aTQ (ab @aOt (ab @aQQ (ab @aP9 (ab @aS2 (ab @aSG (ab @aT6 (ab @aSI (ab @aQX (ab @aEa (@aFs))))))))))))))))))))))))))))))))))))))))))))))))))))))))))
theorem S1:type_of%(ab @SS (ab @TT (ab @rF.eq_1 (ab @rF.eq_2 (ab @bK.eq_1 (ab @bK.eq_2 (ab @bK.eq_3 (ab @bK.eq_4 (ab @bK.eq_5 (ab @bK.eq_6 (ab @bK.eq_7 (ab @bK.eq_8 (ab @bK.eq_9 (ab @bK.eq_10 (ab @bK.eq_11 (ab @bK.eq_12 (ab @bK.eq_13 (ab @bK.eq_14 (ab @bK.eq_15 (ab @bK.eq_16 (ab @bK.eq_17 (ab @bK.eq_18 (ab @bK.eq_19 (ab @bK.eq_20 (ab @bK.eq_21 (ab @bK.eq_22 (ab @bK.eq_23 (ab @bK.eq_24 (ab @dW.eq_1 (ab @dW.eq_2 (ab @dW.eq_3 (ab @dW.eq_4 (ab @lQ.eq_1 (ab @lQ.eq_2 (ab @jM.eq_1 (ab @jM.eq_2 (ab @jM.eq_3 (ab @jM.eq_4 (ab @jM.eq_5 (ab @jM.eq_6 (ab @eL.eq_1 (ab @eL.eq_2 (ab @iU.eq_1 (ab @iU.eq_2 (ab @aAE.eq_1 (ab @aAE.eq_2 (ab @qM.eq_1 (ab @jK.eq_1 (@iO.eq_1))))))))))))))))))))))))))))))))))))))))))))))))):=(ab @SS (ab @TT (ab @rF.eq_1 (ab @rF.eq_2 (ab @bK.eq_1 (ab @bK.eq_2 (ab @bK.eq_3 (ab @bK.eq_4 (ab @bK.eq_5 (ab @bK.eq_6 (ab @bK.eq_7 (ab @bK.eq_8 (ab @bK.eq_9 (ab @bK.eq_10 (ab @bK.eq_11 (ab @bK.eq_12 (ab @bK.eq_13 (ab @bK.eq_14 (ab @bK.eq_15 (ab @bK.eq_16 (ab @bK.eq_17 (ab @bK.eq_18 (ab @bK.eq_19 (ab @bK.eq_20 (ab @bK.eq_21 (ab @bK.eq_22 (ab @bK.eq_23 (ab @bK.eq_24 (ab @dW.eq_1 (ab @dW.eq_2 (ab @dW.eq_3 (ab @dW.eq_4 (ab @lQ.eq_1 (ab @lQ.eq_2 (ab @jM.eq_1 (ab @jM.eq_2 (ab @jM.eq_3 (ab @jM.eq_4 (ab @jM.eq_5 (ab @jM.eq_6 (ab @eL.eq_1 (ab @eL.eq_2 (ab @iU.eq_1 (ab @iU.eq_2 (ab @aAE.eq_1 (ab @aAE.eq_2 (ab @qM.eq_1 (ab @jK.eq_1 (@iO.eq_1)))))))))))))))))))))))))))))))))))))))))))))))))
theorem N1:type_of%(ab @bLt.{0} (ab @aQc (ab @aRQ (ab @bN5.{0} (ab @List.elem_nil.{0} (ab @decide_true (ab @decide_false (ab @Bool.true_or (ab @Bool.or_true (ab @Bool.false_or (ab @bN0 (ab @bMd.{0} (ab @bM7.{0} (ab @bMF.{0} (@bJM.{0,0}))))))))))))))):=(ab @bLt.{0} (ab @aQc (ab @aRQ (ab @bN5.{0} (ab @List.elem_nil.{0} (ab @decide_true (ab @decide_false (ab @Bool.true_or (ab @Bool.or_true (ab @Bool.false_or (ab @bN0 (ab @bMd.{0} (ab @bM7.{0} (ab @bMF.{0} (@bJM.{0,0})))))))))))))))
theorem vJ{P:Program}{orc:cP}(f:FuncId)(h:bZ f=false){n:Nat}{args:List TV}{s:VS}:fI P bZ orc n f args s=fF orc f args s:=bF5 h
end
end Ev
theorem aLS{U V t h B q:Nat}(hU:U/B=t)(hV:h*B<=V)(hB:0<B)(hh:0<h)(hq:q*V<=U):q<=t/h:=by
 rw[bLS hh,←hU,bLS hB]
 calc q*h*B=q*(h*B):=bK1 ..
  _<=q*V:=bK5 _ hV
  _<=U:=hq
theorem aVG{U V U2 V2 B q d:Nat}(hU:U/B=U2)(hV:V2*B<=V)(hB:0<B)(hq:q*V<=U)(h:U2<d*V2):q<d:=by
 rcases bJS q d with h1|h1
 ·exact h1
 ·exfalso
  have h2:d*V2<=U2:=by
   rw[←hU,bLS hB]
   calc d*V2*B=d*(V2*B):=bK1 ..
    _<=d*V:=bK5 _ hV
    _<=q*V:=bK8 _ h1
    _<=U:=hq
  omega
theorem aXr{U V U2 V2 B q d C:Nat}(hU:U2*B<=U)(hV:V<(V2+1)*B)(a:d*B<=C)(i:C<=V)(hq:U<(q+1)*V)(h:d*V2<=U2):d<=q+1:=by
 rcases bJS (q+1) d with h1|h1
 ·exfalso
  have c:(q+2)*V<=d*V:=bK8 _ h1
  have e:d*V<=d*((V2+1)*B):=bK5 _ (bKb hV)
  have f:d*((V2+1)*B)=d*V2*B+d*B:=by rw[bKw,bK4,bLI,bK1]
  have g:d*V2*B<=U2*B:=bK8 _ h
  have j:(q+2)*V=(q+1)*V+V:=by rw[bKw,bKw];omega
  omega
 ·exact h1
theorem aZj{U V t h B q d b:Nat}(hU:t*B<=U)(hV:V<=(h+1)*B)(a:d<=b)(k:d*h+b<=t)(hq:U<(q+1)*V):d<=q:=by
 rcases bJS q d with h1|h1
 ·exfalso
  have c:(q+1)*V<=d*V:=bK8 _ h1
  have e:d*V<=d*((h+1)*B):=bK5 _ hV
  have f:d*((h+1)*B)=(d*h+d)*B:=by rw[←bK1,bK4,bKk]
  have g:(d*h+d)*B<=t*B:=bK8 _ (by omega)
  omega
 ·exact h1
theorem aDr(k:Nat):0<4294967296^k:=bKt (by omega)
theorem aW9(l:List Nat)(j:Nat):4294967296^j*l.getD j 0<=val l:=by
 by_cases h:j<l.length
 ·rw[pB l j (by omega),pG l h,bK4];omega
 ·rw[qQ (by omega)];omega
theorem aHI{l:List Nat}{m j:Nat}(h:val l<4294967296^m)(o:m<=j):l.getD j 0=0:=by
 rcases bLF (l.getD j 0)with h0|h0
 ·exact h0
 ·exfalso
  have h1:=aW9 l j
  have h2:4294967296^m<=4294967296^j:=bK2 (by omega) o
  have p:4294967296^j*1<=4294967296^j*l.getD j 0:=bK5 _ h0
  omega
theorem aOq{l:List Nat}(h:∀j,l.getD j 0=0):val l=0:=by
 induction l with
 |nil=>rfl
 |cons x l ih=>
  have h0:=h 0
  simp only[bNc]at h0
  rw[val,h0,ih fun j=>by simpa using h (j+1)]
theorem aIn{l d:List Nat}(h:∀j,l.getD j 0=d.getD j 0):val l=val d:=by
 induction l generalizing d with
 |nil=>rw[aOq (l:=d) fun j=>by rw[←h j];rfl];rfl
 | cons x l ih=>
  cases d with
  |nil=>rw[aOq (l:=x::l) fun j=>by rw[h j];rfl];rfl
  |cons y d=>
   have h0:=h 0
   simp only[bNc]at h0
   rw[val,val,h0,ih fun j=>by simpa using h (j+1)]
theorem vH(l:List Nat)(i j:Nat):(l.drop i).getD j 0=l.getD (i+j) 0:=by
 rw[bK0,List.getElem?_drop,bK0]
theorem aD0{l:List Nat}{m:Nat}(h:val l<4294967296^m):val (l.take m)=val l:=by
 apply aIn
 intro j
 by_cases o:j<m
 ·exact getD_take o
 ·rw[aHI h (by omega),qQ (by rw[bJO];omega)]
def yV(X V k:Nat)(xs qs:List Nat):Prop:=X=V*(4294967296^k*val (qs.drop k))+val xs/\val (xs.drop k)<V
theorem aPk{X V k n:Nat}{xs:List Nat}(q:val xs=X)(w:k<=xs.length)(h:X<4294967296^k*V):yV X V k xs (bJL n 0):=by
 refine⟨?_, ?_⟩
 ·rw[List.drop_replicate,aHK,q];simp
 ·rw[←q,pB xs k w]at h
  apply Nat.lt_of_mul_lt_mul_left (a:=4294967296^k)
  omega
theorem aLK{X V i:Nat}{xs qs:List Nat}(f:bD xs)(r:i<xs.length)(h:yV X V (i+1) xs qs):val (xs.drop i)<V*4294967296:=by
 have h1:=h.2
 have h2:=f.getD i
 rw[pG xs r]
 have p:4294967296*(val (xs.drop (i+1))+1)<=4294967296*V:=bK5 _ h1
 rw[bJR V]
 omega
theorem aMK{X V i:Nat}{xs qs us:List Nat}(h:yV X V (i+1) xs qs)(hq:i<qs.length)(r:i<xs.length)(H:us.length=xs.length)(z:us.take i=xs.take i)
  (u:val (us.drop i)=val (xs.drop i)%V) (hV:0<V):yV X V i us (qs.set i (val (xs.drop i)/V)):=by
 refine⟨?_,by rw[u];exact bK6 _ hV⟩
 have A:(qs.set i (val (xs.drop i)/V)).drop i=(val (xs.drop i)/V)::qs.drop (i+1):=by
  rw[aAk _ (by simp;omega),bNb,if_pos (by omega),vE hq]
 rw[h.1,A,val,pB us i (by omega),z,u,pB xs i (by omega),bJX]
 have h2:=bL2 (val (xs.drop i)) V
 generalize val (xs.drop i)/V=Q at*
 generalize val (xs.drop i)%V=R at*
 rw[←h2]
 generalize 4294967296^i=B at*
 generalize val (qs.drop (i+1))=D at*
 simp only[bK4]
 have g:V*(B*4294967296*D)=V*(B*(4294967296*D)):=by rw[bK1]
 have C:B*(V*Q)=V*(B*Q):=by rw[bMI]
 rw[g,C]
 omega
theorem aRP{X V:Nat}{xs qs:List Nat}(h:yV X V 0 xs qs):val qs=X/V/\val xs=X%V:=by
 obtain⟨h1,h2⟩:=h
 simp only[bJV,Nat.pow_zero,bLI]at h1 h2
 have hV:0<V:=by omega
 rw[h1,Nat.mul_add_div hV,bLl h2,Nat.mul_add_mod,bKg h2]
 exact⟨by omega,rfl⟩
theorem aMJ{b m:Nat}(I:(aO b).length=m+1):∃s,s<32/\32*(m+1)-(32*m+blen ((aO b).getD m 0))=s/\blen ((aO b).getD m 0)<=32/\4294967296^m*2147483648<=b*2^s/\b*2^s<4294967296^(m+1):=by
 have f:=cU b
 have c:(aO b).getD m 0≠0:=by
  intro h0
  have h1:val (aO b)<4294967296^m:=by
   rw[pB (aO b) m (by omega),pG (aO b) (by omega),bLT (by omega),h0]
   have:=jE (f.take m)
   rw[bJO,bK7 (by omega)]at this
   simpa [val]using this
  rw[cO]at h1
  have:=lK h1
  omega
 have E:=f.getD m
 have e:b=val ((aO b).take m)+4294967296^m*(aO b).getD m 0:=by
  have:=pB (aO b) m (by omega)
  rw[cO,pG (aO b) (by omega),bLT (by omega)]at this
  simpa [val]using this
 have v:val ((aO b).take m)<4294967296^m:=by
  have:=jE (f.take m)
  rwa [bJO,bK7 (by omega)]at this
 generalize (aO b).getD m 0=t at*
 have h1:=aLu t
 have h2:=aLs c
 have p:=aBT (k:=32) (x:=t) (by omega)
 have J:1<=blen t:=by rw[aAt c];omega
 refine⟨32-blen t,by omega,by omega,p, ?_, ?_⟩
 ·have g:2^(blen t-1)*2^(32-blen t)=2147483648:=by rw[←bL4,show blen t-1+(32-blen t)=31 by omega]
  rw[e]
  calc 4294967296^m*2147483648=4294967296^m*(2^(blen t-1)*2^(32-blen t)):=by rw[g]
   _=(4294967296^m*2^(blen t-1))*2^(32-blen t):=by rw[bK1]
   _<=(4294967296^m*t)*2^(32-blen t):=bK8 _ (bK5 _ h2)
   _<=_:=bK8 _ (by omega)
 ·have g:2^blen t*2^(32-blen t)=4294967296:=by rw[←bL4,show blen t+(32-blen t)=32 by omega]
  have F:b<4294967296^m*2^blen t:=by
   have:4294967296^m*(t+1)<=4294967296^m*2^blen t:=bK5 _ h1
   rw[bK4]at this
   omega
  calc b*2^(32-blen t)<(4294967296^m*2^blen t)*2^(32-blen t):=bNd F (bKt (by omega))
   _=4294967296^m*(2^blen t*2^(32-blen t)):=by rw[bK1]
   _=4294967296^(m+1):=by rw[g,bJX]
theorem aMl{a b m n s:Nat}(hn:(aO a).length=n)(G:m+1<=n)(hs:s<32)(hV:4294967296^m*2147483648<=b*2^s):a*2^s<4294967296^(n-m)*(b*2^s):=by
 have h1:a<4294967296^n:=by
  have:=jE (cU a)
  rwa [cO,hn]at this
 have h2:2^s<=2^31:=bK2 (by omega) (by omega)
 calc a*2^s<4294967296^n*2^s:=bNd h1 (bKt (by omega))
  _<=4294967296^n*2147483648:=bK5 _ (by omega)
  _=4294967296^(n-m)*(4294967296^m*2147483648):=by rw[←bK1,←bL4,show n-m+m=n by omega]
  _<=_:=bK5 _ hV
theorem aLt{V m:Nat}(h1:4294967296^m<=V)(h2:V<4294967296^(m+1)):(aO V).length=m+1:=by
 have:=lK h2
 have:=aLv h1
 omega
theorem ofInt_u64(a:Nat)(c:a<18446744073709551616):(BitVec.ofInt 64 (a:Int)).toNat=a:=by
 rw[BitVec.ofInt_natCast,BitVec.toNat_ofNat];exact bKg (by omega)
theorem u64_or_nat(a b:Nat)(c:a<18446744073709551616)(d:b<18446744073709551616):bits .or .u64 (a:Int) (b:Int)=((a|||b:Nat):Int):=by
 have hx:a|||b<2^64:=Nat.or_lt_two_pow (by omega) (by omega)
 show IntKind.u64.wrap ((BitVec.ofInt 64 (a:Int)|||BitVec.ofInt 64 (b:Int)).toNat:Int)=_
 rw[BitVec.toNat_or,ofInt_u64 a c,ofInt_u64 b d,IntKind.wrap_u64]
 omega
theorem aIq(a b:Nat)(c:a<4294967296)(d:b<4294967296):bits .or .u64 ((a:Int)*4294967296) (b:Int)=((b+4294967296*a:Nat):Int):=by
 have h1:(a:Int)*4294967296=((a*4294967296:Nat):Int):=by omega
 rw[h1,u64_or_nat _ _ (by omega) (by omega)]
 have h2:=bN8 (i:=32) (b:=b) (by omega) a
 have e:a*4294967296=2^32*a:=by omega
 rw[e,←h2]
 omega
theorem aJI{xs zs:List Nat}{n r j:Nat}(w:j<xs.length)(f:zs.length=xs.length)(h:val (xs.drop (j+1))=n*val (zs.drop (j+1))+r):
  val (xs.drop j)=n*val ((zs.set j ((xs.getD j 0+4294967296*r)/n)).drop j)+(xs.getD j 0+4294967296*r)%n:=by
 have G:(zs.set j ((xs.getD j 0+4294967296*r)/n)).drop j=((xs.getD j 0+4294967296*r)/n)::zs.drop (j+1):=by
  rw[aAk _ (by simp;omega),bNb,if_pos (by omega)]
  congr 1
  rw[bK0,List.getElem?_set_self (by omega)];rfl
 rw[pG xs w,G,val,h]
 have:=bL2 (xs.getD j 0+4294967296*r) n
 rw[bK4,bK4,←bK1,bJR 4294967296 n,bK1]
 omega
theorem aGD{ρ x n:Nat}(hρ:ρ<n)(hx:x<4294967296):(x+4294967296*ρ)/n<4294967296:=by
 apply bLy
 have:4294967296*(ρ+1)<=4294967296*n:=bK5 _ hρ
 rw[bJR n];omega
theorem jQ{zs:List Nat}(h:bD zs){j y:Nat}(g:y<4294967296):bD (zs.set j y):=by
 intro x hx
 rcases List.mem_or_eq_of_mem_set hx with hx|rfl
 ·exact h x hx
 ·exact g
theorem qO(n:Nat):bD (bJL n 0):=by
 intro x hx
 rw[List.eq_of_mem_replicate hx];omega
def aAI(xs:List Nat):Nat:=if xs.length=0 then 0 else 32*(xs.length-1)+blen (xs.getD (xs.length-1) 0)
theorem aOP{x s:Nat}(hs:s<32)(hx:x<4294967296):x*2^s<18446744073709551616:=by
 have h1:2^s<=2^31:=bK2 (by omega) (by omega)
 have h2:x*2^s<=4294967296*2^31:=bLh (by omega) h1
 omega
theorem aNu{xs zs:List Nat}{k s:Nat}(hs:s<32)(a:k<xs.length)(hx:xs.getD k 0<4294967296)(h1:zs.length=xs.length+1)(h2:bD zs)(A:zs.getD k 0<2^s)(C:∀j,k<j->zs.getD j 0=0)(D:val (zs.take (k+1))=val (xs.take k)*2^s):
  ((zs.set k (zs.getD k 0+xs.getD k 0*2^s%4294967296)).set (k+1) (xs.getD k 0*2^s/4294967296)).length=xs.length+1/\
  bD ((zs.set k (zs.getD k 0+xs.getD k 0*2^s%4294967296)).set (k+1) (xs.getD k 0*2^s/4294967296))/\
  ((zs.set k (zs.getD k 0+xs.getD k 0*2^s%4294967296)).set (k+1) (xs.getD k 0*2^s/4294967296)).getD (k+1) 0<2^s/\
  (∀j,k+1<j->((zs.set k (zs.getD k 0+xs.getD k 0*2^s%4294967296)).set (k+1) (xs.getD k 0*2^s/4294967296)).getD j 0=0)/\
  val (((zs.set k (zs.getD k 0+xs.getD k 0*2^s%4294967296)).set (k+1) (xs.getD k 0*2^s/4294967296)).take (k+1+1))=val (xs.take (k+1))*2^s:=by
 obtain⟨s1,H,I⟩:=bAz hs hx A
 have hq:2^s<=2^31:=bK2 (by omega) (by omega)
 refine⟨by simp [h1],jQ (jQ h2 s1) (by omega), ?_,fun j w=> ?_, ?_⟩
 ·rw[vE (by simp [h1];omega)];exact H
 ·rw[getD_set_ne (by omega),getD_set_ne (by omega)];exact C j (by omega)
 ·rw[aEN (by simp [h1];omega),aEN (by omega),aEM xs a]
  rw[aEM zs (by omega)]at D
  rw[bKw,←D,bJX]
  generalize 4294967296^k=B at*
  generalize xs.getD k 0=x at*
  generalize zs.getD k 0=z at*
  have e:B*(z+x*2^s%4294967296)+B*4294967296*(x*2^s/4294967296)=B*(z+x*2^s):=by
   rw[bK1,←bK4,I]
  rw[bLO,e,bK4,bK1]
  omega
theorem aFf{xs zs:List Nat}{s k v:Nat}(a:k<zs.length)(h:∀j,j<k->zs.getD j 0=rA xs s j)(J:rA xs s k=v):∀j,j<k+1->(zs.set k v).getD j 0=rA xs s j:=by
 intro j w
 by_cases e:j=k
 ·subst e;rw[vE a,J]
 ·rw[getD_set_ne (by omega)];exact h j (by omega)
theorem aWF{X Y B x y b d:Nat}{o:Nat}(hx:x<4294967296)(g:y<4294967296)(E:b<=1)(N:d=x+4294967296-y-b)(F:o=d%4294967296){Z:Nat}(h:Z+Y=X+B*b):
  Z+B*o+(Y+B*y)=X+B*x+B*4294967296*(1-d/4294967296)/\1-d/4294967296<=1:=by
 have e:o+y+b=x+4294967296*(1-d/4294967296):=by omega
 have u:=congrArg (B* ·) e
 simp only[bK4]at u
 refine⟨?_,by omega⟩
 rw[bK1]
 omega
theorem aM9{xs ys zs:List Nat}{k b:Nat}(a:k<zs.length)(hx:xs.getD k 0<4294967296)(g:ys.getD k 0<4294967296)(E:b<=1)(h:val (zs.take k)+val (ys.take k)=val (xs.take k)+4294967296^k*b):
  val ((zs.set k ((xs.getD k 0+4294967296-ys.getD k 0-b)%4294967296)).take (k+1))+val (ys.take (k+1))=val (xs.take (k+1))+4294967296^(k+1)*(1-(xs.getD k 0+4294967296-ys.getD k 0-b)/4294967296):=by
 rw[aEN a,nZ,nZ,bJX]
 exact(aWF hx g E rfl rfl h).1
theorem aLP{c o x y:Nat}(hc:c<4294967296)(F:o<4294967296)(hx:x<4294967296)(g:y<4294967296):x*y<=18446744065119617025/\c+o+x*y<18446744073709551616:=by
 have h:x*y<=4294967295*4294967295:=bLh (by omega) (by omega)
 omega
theorem aM0{zs ys:List Nat}{i k c x T:Nat}(a:i+k<zs.length)(h:val zs+4294967296^(i+k)*c=T+4294967296^i*x*val (ys.take k)):
  val (zs.set (i+k) ((c+zs.getD (i+k) 0+x*ys.getD k 0)%4294967296))+4294967296^(i+(k+1))*((c+zs.getD (i+k) 0+x*ys.getD k 0)/4294967296)=T+4294967296^i*x*val (ys.take (k+1)):=by
 have h1:=aJu a ((c+zs.getD (i+k) 0+x*ys.getD k 0)%4294967296)
 rw[nZ,bK4,←bLO T,←h]
 have e:4294967296^i*x*(4294967296^k*ys.getD k 0)=4294967296^(i+k)*(x*ys.getD k 0):=by
  rw[bL4]
  rw[bK1,bK1,bMI x]
 rw[e,show i+(k+1)=i+k+1 by omega,bJX]
 generalize 4294967296^(i+k)=B at*
 generalize x*ys.getD k 0=p at*
 generalize zs.getD (i+k) 0=o at*
 have u:B*((c+o+p)%4294967296)+B*4294967296*((c+o+p)/4294967296)=B*c+B*o+B*p:=by
  rw[bK1,←bK4,←bK4,←bK4]
  congr 1
  omega
 omega
theorem aM5{zs xs ys:List Nat}{i c:Nat}(K:i<xs.length)(f:zs.length=xs.length+ys.length)(h0:zs.getD (i+ys.length) 0=0)
  (h:val zs+4294967296^(i+ys.length)*c=val (xs.take i)*val ys+4294967296^i*xs.getD i 0*val (ys.take ys.length)):
  val (zs.set (i+ys.length) c)=val (xs.take (i+1))*val ys:=by
 have h1:=aJu (xs:=zs) (j:=i+ys.length) (by omega) c
 rw[h0,bLz,bKR,h,bKp]at h1
 rw[h1,aEM xs K,bKw]
theorem oX{m n:Nat}(h:m<=n):(aO m).length<=(aO n).length:=by
 rcases bJS (aO n).length (aO m).length with h1|h1
 ·have:=aHH h1;omega
 ·exact h1
theorem aPr{xs:List Nat}{k:Nat}(f:xs.length=k+2)(l:bD xs):val xs/4294967296^k=xs.getD k 0+4294967296*xs.getD (k+1) 0:=by
 have h0:0<4294967296^k:=bKt (by omega)
 have h1:val (xs.take k)<4294967296^k:=by
  have:=jE (l.take k)
  rwa [bJO,bK7 (by omega)]at this
 rw[pB xs k (by omega),bMG _ _ h0,bLl h1,bKi,pG xs (by omega),pG xs (by omega),bLT (by omega)]
 simp [val]
theorem bC3{ys:List Nat}{k:Nat}(f:ys.length=k+1):ys.getD k 0*4294967296^k<=val ys:=by
 rw[pB ys k (by omega),pG ys (by omega),bLT (by omega),bJR]
 simp [val]
theorem aLO{ys:List Nat}{k:Nat}(f:ys.length=k+1)(l:bD ys):val ys<(ys.getD k 0+1)*4294967296^k:=by
 have h1:val (ys.take k)<4294967296^k:=by
  have:=jE (l.take k)
  rwa [bJO,bK7 (by omega)]at this
 rw[pB ys k (by omega),pG ys (by omega),bLT (by omega),bKw,bLI,bJR (ys.getD k 0)]
 simp [val];omega
theorem aRj{V k:Nat}(f:(aO V).length=k+1):0<(aO V).getD k 0:=by
 rcases bJS 0 ((aO V).getD k 0)with h|h
 ·exact h
 ·exfalso
  have h1:=aLO f (cU V)
  have h2:(aO V).getD k 0=0:=by omega
  rw[h2,cO]at h1
  have:=lK (n:=V) (k:=k) (by simpa using h1)
  omega
theorem aWk{xs:List Nat}{V k:Nat}(f:xs.length=k+2)(l:bD xs)(a:(aO V).length=k+1):
  val xs/V<=(xs.getD k 0+4294967296*xs.getD (k+1) 0)/(aO V).getD k 0:=by
 have h1:=bC3 a
 rw[cO]at h1
 exact aLS (aPr f l) h1 (bKt (by omega)) (aRj a) (bM8 _ _)
theorem aMk{us xs ds:List Nat}{j p n y:Nat}(f:us.length=n+1)(L:j+p<n+1)(A:∀t,t<p->us.getD (j+t) 0=ds.getD t 0)(C:∀t,(t<j\/j+p<=t)->us.getD t 0=xs.getD t 0)(g:ds.getD p 0=y):
  (us.set (j+p) y).length=n+1/\(∀t,t<p+1->(us.set (j+p) y).getD (j+t) 0=ds.getD t 0)/\(∀t,(t<j\/j+(p+1)<=t)->(us.set (j+p) y).getD t 0=xs.getD t 0):=by
 refine⟨by simp [f],fun t M=> ?_,fun t M=> ?_⟩
 ·by_cases e:t=p
  ·subst e;rw[vE (by omega),g]
  ·rw[getD_set_ne (by omega)];exact A t (by omega)
 ·rw[getD_set_ne (by omega)];exact C t (by omega)
theorem aID(p q:Nat):Nat.gcd q (p%q)=Nat.gcd p q:=by
 rw[Nat.gcd_comm p q,Nat.gcd_rec q p,Nat.gcd_comm]
theorem aZG{Z X Y B c x y o:Nat}(F:o=(c+x+y)%4294967296)(h:Z+B*c=X+Y):
  Z+B*o+B*4294967296*((c+x+y)/4294967296)=X+B*x+(Y+B*y):=by
 have e:o+4294967296*((c+x+y)/4294967296)=c+x+y:=by omega
 have u:=congrArg (B* ·) e
 simp only[bK4]at u
 rw[bK1]
 omega
theorem aX5{xs ys zs:List Nat}{k c:Nat}(a:k<zs.length)(h:val (zs.take k)+4294967296^k*c=val (xs.take k)+val (ys.take k)):
  val ((zs.set k ((c+xs.getD k 0+ys.getD k 0)%4294967296)).take (k+1))+4294967296^(k+1)*((c+xs.getD k 0+ys.getD k 0)/4294967296)=val (xs.take (k+1))+val (ys.take (k+1)):=by
 rw[aEN a,nZ,nZ,bJX]
 exact aZG rfl h
namespace Ev
section
variable {m:Nat}
theorem aJy:bO PG 65 f65 [2] []=true:=by kernel_rfl
theorem bHK{xs:List Nat}(j:xs.length<10000000):VX (m+1) 65 [tW xs]=some (tW (cJ xs),false):=by
 refine bX rfl func65 aJy rfl ?_
 simp only[f65,N1,bC,bF,bH,bG,bE,zB,zG]
 simp (disch:=first|rfl|omega)only[S1,aC,aE,aM,aJ,zB]
 refine .loop (fun n e s=>s=dZ/\n<=xs.length/\e 0=some (tW (xs.take n))/\cJ (xs.take n)=cJ xs) xs.length ⟨rfl,bJE _, ?_,by simp⟩ (dB j) ?_
 ·simp
  rfl
 ·rintro n e s ⟨rfl,hn,f,g⟩
  have d:(xs.take n).length=n:=by simp;omega
  simp (disch:=first|rfl|omega)only[S1,aN,aC,aE,aM,aJ,zB,f,d]
  refine sF (fun h=> ?_) (fun h=> ?_)
  ·have h0:=ae h
   simp (disch:=first|rfl|omega)only[S1,aN,aC,aE,aM,aJ,zB,f,d,h,getD_take]
   refine cM (fun h1=> ?_) (fun h1=> ?_)
   ·have c:=ae h1
    simp (disch:=first|rfl|omega)only[S1,aN,aC,aE,aM,aJ,zB,f,d]
    refine⟨n-1,by omega,by omega, ?_, ?_⟩
    ·rw[bKC,bK7 (by omega)];rfl
    ·rw[←g,show n=(n-1)+1 by omega]
     exact(xJ (by omega) c).symm
   ·have c:=af h1
    simp (disch:=first|rfl|omega)only[S1,zB,reduceCtorEq,f]
    have:=xK (k:=n-1) (by omega) c
    rw[show n-1+1=n by omega]at this
    rw[←g,nA (xs.take n),this,bKC,bNe]
  ·have h0:=af h
   have o:n=0:=by omega
   subst o
   simp (disch:=first|rfl|omega)only[S1,aC,aE,aM,aJ,zB,reduceCtorEq,zG,f]
   rw[←g];rfl
theorem bDR{xs:List Nat}{s:VS}{orc:cP}{n:Nat}(j:xs.length<10000000):fI PG bZ orc (n+1) 65 [tW xs] s=some (tW (cJ xs),s):=by
 refine aG4 rfl func65 aJy rfl ?_
 simp only[f65,N1,bC,bF,bH,bG,bE,zB,zG]
 simp (disch:=first|rfl|omega)only[S1,aH,aC,aE,aM,aJ,zB]
 refine .loop (fun n e s'=>s'=s/\n<=xs.length/\e 0=some (tW (xs.take n))/\cJ (xs.take n)=cJ xs) xs.length ⟨rfl,bJE _, ?_,by simp⟩ (dB j) ?_
 ·simp
  rfl
 ·rintro n e s ⟨rfl,hn,f,g⟩
  have d:(xs.take n).length=n:=by simp;omega
  simp (disch:=first|rfl|omega)only[S1,aN,aC,aE,aM,aJ,zB,f,d]
  refine sF (fun h=> ?_) (fun h=> ?_)
  ·have h0:=ae h
   simp (disch:=first|rfl|omega)only[S1,aN,aC,aE,aM,aJ,zB,f,d,h,getD_take]
   refine cM (fun h1=> ?_) (fun h1=> ?_)
   ·have c:=ae h1
    simp (disch:=first|rfl|omega)only[S1,aN,aC,aE,aM,aJ,zB,f,d]
    refine⟨n-1,by omega,by omega, ?_, ?_⟩
    ·rw[bKC,bK7 (by omega)];rfl
    ·rw[←g,show n=(n-1)+1 by omega]
     exact(xJ (by omega) c).symm
   ·have c:=af h1
    simp (disch:=first|rfl|omega)only[S1,zB,reduceCtorEq,f]
    have:=xK (k:=n-1) (by omega) c
    rw[show n-1+1=n by omega]at this
    rw[←g,nA (xs.take n),this,bKC,bNe]
  ·have h0:=af h
   have o:n=0:=by omega
   subst o
   simp (disch:=first|rfl|omega)only[S1,aC,aE,aM,aJ,zB,reduceCtorEq,zG,f]
   rw[←g];rfl
theorem aTb{xs:List Nat}{s:VS}{orc:cP}(j:xs.length<10000000):fI PG bZ orc lC 65 [tW xs] s=some (tW (cJ xs),s):=bDR (n:=7) j
theorem aOZ{zs:List Nat}{k off len:Nat}{s:VS}{orc:cP}{n:Nat}(p:len<10000000)(i:k<s.nxt)(l:s.ob k=⟨0,zs.map wc⟩)(j:off+len<=zs.length):fI PG bZ orc (n+1) 65 [.ow k off len 1] s=some (.ow k off (cJ ((zs.drop off).take len)).length 1,s):=by
 refine aG4 rfl func65 aJy rfl ?_
 simp only[f65,N1,bC,bF,bH,bG,bE,zB,zG]
 simp (disch:=first|rfl|omega)only[S1,aH,aC,aE,aM,aJ,zB]
 refine .loop (fun n e s'=>s'=s/\n<=len/\e 0=some (.ow k off n 1)/\cJ ((zs.drop off).take n)=cJ ((zs.drop off).take len)) len ⟨rfl,bJE _,rfl,rfl⟩ (dB p) ?_
 rintro n e s ⟨rfl,hn,f,g⟩
 simp (disch:=first|rfl|omega)only[S1,aN,aC,aE,aM,aJ,zB,f]
 refine sF (fun h=> ?_) (fun h=> ?_)
 ·have h0:=ae h
  have w:zs.getD (off+(n-1)) 0=(zs.drop off).getD (n-1) 0:=by rw[vH]
  simp (disch:=first|rfl|omega)only[S1,aN,aC,aE,aM,aJ,zB,reduceCtorEq,f,h,l]
  refine cM (fun h1=> ?_) (fun h1=> ?_)
  ·have c:=ae h1
   simp (disch:=first|rfl|omega)only[S1,aN,aC,aE,aM,aJ,zB,f]
   refine⟨n-1,by omega,by omega,rfl, ?_⟩
   rw[←g,show n=(n-1)+1 by omega]
   exact(xJ (by simp;omega) (w ▸ c)).symm
  ·have c:=af h1
   simp (disch:=first|rfl|omega)only[S1,zB,reduceCtorEq,f]
   have:=xK (xs:=zs.drop off) (k:=n-1) (by simp;omega) (w ▸ c)
   rw[show n-1+1=n by omega]at this
   rw[←g,this]
 ·have h0:=af h
  have o:n=0:=by omega
  subst o
  simp only[Nat.lt_irrefl,decide_false]at h ⊢
  simp (disch:=first|rfl|omega)only[S1,aC,aE,aM,aJ,zB,reduceCtorEq,f]
  rw[←g];rfl
theorem aZL:bO PG 63 f63 [4] []=true:=by kernel_rfl
theorem bCa{n:Bool}{xs:List Nat}(j:xs.length<10000000):VX (m+2) 63 [.b n,tW xs]=some (.ag (ci (n&&decide (0<(cJ xs).length)) (cJ xs)),false):=by
 refine bX rfl func63 aZL rfl ?_
 simp only[f63,N1,bC,bF,bH,bG,bE,zB,zG]
 simp (disch:=first|rfl|omega)only[S1,zB,zD]
 cases n<;>simp (disch:=first|rfl|omega)only[S1,aN,aC,aE,aM,aJ,aD,zB,reduceCtorEq,zD,zG,zH,aTb]
theorem aRG{zs:List Nat}{k off len:Nat}{s:VS}{orc:cP}(p:len<10000000)(i:k<s.nxt)(l:s.ob k=⟨0,zs.map wc⟩)(j:off+len<=zs.length):fI PG bZ orc lC 65 [.ow k off len 1] s=some (.ow k off (cJ ((zs.drop off).take len)).length 1,s):=aOZ (n:=7) p i l j
theorem vQ{zs:List Nat}{k len:Nat}{s:VS}{orc:cP}(i:k<s.nxt)(l:s.ob k=⟨0,zs.map wc⟩)(j:zs.length=len)(p:len<10000000):fI PG bZ orc lC 65 [.ow k 0 len 1] s=some (.ow k 0 (cJ zs).length 1,s):=by
 rw[aRG p i l (by omega),bJV,bJU (by omega)]
theorem xS{zs:List Nat}{k:Nat}{s:VS}(i:k<s.nxt)(l:s.ob k=⟨0,zs.map wc⟩):dJ s [.ow k 0 (cJ zs).length 1]=some (.tp [tW (cJ zs)],true):=by
 have:=qN zs
 rw[aFU i l (by omega),bJV,←nA]
theorem bBC{s:VS}{k off len:Nat}{zs:List Nat}{t:TV}(i:k<s.nxt)(l:s.ob k=⟨0,zs.map wc⟩)(j:off+len<=zs.length)(p:len<40000000)(g:cQ t)(hs:cV t<=10000000):dJ s [.ow k off len 1,t]=some (.tp [tW ((zs.drop off).take len),t],false):=by
 simp only[dJ,l]
 rw[if_neg (fun h=>by rw[aTn]at h;exact absurd h.2.2.2.2.2 (by decide))]
 rw[show cL=99999999+1 from rfl,oY (xZ i l j p (by decide)) (oY (n:=99999998) ((nC 99999998).1 g.1 (by omega)) rfl)]
 simp only[bKe,cG,yQ,g.2]
theorem aIb{zs:List Nat}{k:Nat}{s:VS}{t:TV}(i:k<s.nxt)(l:s.ob k=⟨0,zs.map wc⟩)(p:zs.length<40000000)(g:cQ t)(hs:cV t<=10000000):dJ s [.ow k 0 (cJ zs).length 1,t]=some (.tp [tW (cJ zs),t],false):=by
 have:=qN zs
 rw[bBC i l (by omega) (by omega) g hs,bJV,←nA]
theorem aPL{a b:Nat}(y:a<4294967296)(p:b<4294967296):cJ [a,b]=aO (a+4294967296*b):=by
 have:=iI (xs:=[a,b]) (bD.cons y (bD.cons p bD.nil))
 rw[this]
 simp [val]
theorem bAh:bO PG 64 f64 [2] []=true:=by kernel_rfl
theorem bDo{n:Nat}(hn:n<18446744073709551616):VX (m+2) 64 [.int .u64 (n:Nat)]=some (.tp [tW (aO n)],true):=by
 refine bX rfl func64 bAh rfl ?_
 simp only[f64,N1,bC,bF,bH,bG,bE,zB,zG]
 simp (disch:=first|rfl|omega)only[S1,aC,aE,aM,aJ,aD,zB,zE,zH]
 simp (disch:=first|rfl|omega)only[S1,zB,bL7,List.replicate_zero,bKc,bMH]
 rw[vQ (zs:=[n%4294967296,n/4294967296%4294967296]) (len:=2) bLU rfl rfl (by decide)]
 simp (disch:=first|rfl|omega)only[S1,zB,reduceCtorEq]
 rw[xS bLU rfl,aPL (by omega) (by omega),show n%4294967296+4294967296*(n/4294967296%4294967296)=n by omega]
theorem aG2{n:Nat}(hn:n<18446744073709551616):CC (VX (m+2)) 64 [.int .u64 (n:Nat)] (tW (aO n)):= .fr (Can.cons (cQ.int _ _) Can.nil) (by simp only[bT,cV];decide) (bDo hn)
theorem aXj:bO PG 68 f68 [4,40,31,20] []=true:=by kernel_rfl
theorem aNl{xs ys:List Nat}(hx:xs.length<10000000)(lx:bD xs)(ly:bD ys):VX (m+1) 68 [tW xs,tW ys]=some (.int .i64 (nQ xs ys),false):=by
 refine bX rfl func68 aXj rfl ?_
 simp only[f68,N1,bC,bF,bH,bG,bE,zB,zG]
 simp (disch:=first|rfl|omega)only[S1,aN,aC,aE,aM,aJ,zB,zD]
 refine cM (fun h=> ?_) (fun h=> ?_)
 ·have h':xs.length≠ys.length:=by simpa using h
  simp (disch:=first|rfl|omega)only[S1,aN,zB]
  refine cM (fun h1=> ?_) (fun h1=> ?_)
  ·have c:=ae h1
   simp (disch:=first|rfl|omega)only[S1,aC,aE,aM,aJ,zB,reduceCtorEq]
   rw[aMd c]
  ·have c:=af h1
   simp (disch:=first|rfl|omega)only[S1,aC,aE,aM,aJ,zB,reduceCtorEq]
   rw[aN1 (by omega)];rfl
 ·have h':xs.length=ys.length:=by simpa using h
  simp (disch:=first|rfl|omega)only[S1,aN,aC,aE,aM,aJ,zB]
  refine .loop (fun n e s=>s=dZ/\n<=xs.length/\e 0=some (tW xs)/\e 1=some (tW ys)/\e 5=some (.int .i64 (iz n))/\xs.drop n=ys.drop n) xs.length ?_ (dB hx) ?_
  ·simp (disch:=first|rfl|omega)only[S1,zB]
   simp [h']
  ·rintro n e s ⟨rfl,hn,e0,r,u,x⟩
   simp (disch:=first|rfl|omega)only[S1,aC,aE,aM,aJ,zB,u]
   refine cM (fun h=> ?_) (fun h=> ?_)
   ·have h0:=ae h
    have i:n-1<xs.length:=by omega
    have q:xs.drop (n-1+1)=ys.drop (n-1+1):=by rw[show n-1+1=n by omega];exact x
    simp (disch:=first|rfl|omega)only[S1,zB,e0,r,u]
    refine cM (fun h1=> ?_) (fun h1=> ?_)
    ·have c:=ae h1
     simp (disch:=first|rfl|omega)only[S1,aC,aE,aM,aJ,zB,reduceCtorEq]
     rw[aN5 lx h' i q c]
    ·have c:=af h1
     simp (disch:=first|rfl|omega)only[S1,zB,e0,r,u]
     refine cM (fun h2=> ?_) (fun h2=> ?_)
     ·have v:=ae h2
      simp (disch:=first|rfl|omega)only[S1,aC,aE,aM,aJ,zB,reduceCtorEq]
      rw[aNr ly h' i q v];rfl
     ·have v:=af h2
      simp (disch:=first|rfl|omega)only[S1,aC,aE,aM,aJ,zB,e0,r,u]
      exact⟨n-1,by omega,by omega,rfl,by rw[aAk xs i,aAk ys (by omega),q,show xs.getD (n-1) 0=ys.getD (n-1) 0 by omega]⟩
   ·have h0:=af h
    obtain rfl:n=0:=by omega
    simp (disch:=first|rfl|omega)only[S1,aC,aE,aM,aJ,zB,reduceCtorEq,zG]
    have:xs=ys:=x
    subst this
    rw[aNn];rfl
theorem bAu:bO PG 107 f107 [2] []=true:=by kernel_rfl
theorem bEQ{xs:List Nat}(L:xs.length<=2)(lx:bD xs):VX (m+1) 107 [tW xs]=some (.int .u64 (val xs:Nat),false):=by
 refine bX rfl func107 bAu rfl ?_
 simp only[f107,N1,bC,bF,bH,bG,bE,zB,zG]
 simp (disch:=first|rfl|omega)only[S1,aN,aC,aE,aM,aJ,zB]
 refine .loop (fun n e s=>s=dZ/\n<=xs.length/\e 0=some (tW xs)/\e 4=some (.int .i64 (iz n))/\e 3=some (.int .u64 (val (xs.drop n):Nat))) xs.length ?_ (dB (by omega)) ?_
 ·simp (disch:=first|rfl|omega)only[S1,zB]
  simp [val]
 ·rintro n e s ⟨rfl,hn,e0,E,F⟩
  simp (disch:=first|rfl|omega)only[S1,aC,aE,aM,aJ,zB,E]
  refine cM (fun h=> ?_) (fun h=> ?_)
  ·have h0:=ae h
   have h1:val (xs.drop n)<4294967296:=aVV lx (by omega)
   have h2:=lx.getD (n-1)
   simp (disch:=first|rfl|omega)only[S1,aC,aE,aM,aJ,zB,e0,E,F]
   refine⟨n-1,by omega,by omega,rfl, ?_⟩
   rw[pG xs (j:=n-1) (by omega),show n-1+1=n by omega,bJR,bL1]
  ·have h0:=af h
   obtain rfl:n=0:=by omega
   simp (disch:=first|rfl|omega)only[S1,zB,reduceCtorEq,zG,F]
theorem bId:bO PG 145 f145 [5,4,16] []=true:=by kernel_rfl
theorem aUZ{xs:List Nat}{n:Nat}(L:xs.length<10000000)(lx:bD xs)(hn:0<n)(G:n<4294967296):VX (m+2) 145 [tW xs,.int .u32 (n:Nat)]=some (.tp [tW (aO (val xs/n)),.int .u32 ((val xs%n:Nat):Int)],false):=by
 refine bX rfl func145 bId rfl ?_
 simp only[f145,N1,bC,bF,bH,bG,bE,zB,zG]
 simp (disch:=first|rfl|omega)only[S1,aN,aC,aE,aM,aJ,zB,zD]
 refine .loop (fun k e s=>k<=xs.length/\∃ρ zs,s.nxt=1/\s.ob 0=⟨0,zs.map wc⟩/\e 0=some (tW xs)/\e 1=some (.int .u32 (n:Nat))/\e 6=some (.ow 0 0 xs.length 1)/\e 7=some (.int .u64 (ρ:Nat))/\e 8=some (.int .i64 (iz k))/\ρ<n/\zs.length=xs.length/\bD zs/\val (xs.drop k)=n*val (zs.drop k)+ρ) xs.length ?_ (dB (by omega)) ?_
 ·refine⟨bJE _,0,bJL xs.length 0, ?_⟩
  simp (disch:=first|rfl|omega)only[S1,zB]
  simp [val,hn,qO]
 ·rintro k e s ⟨H,ρ,zs,sn,so,e0,d,f,o,u,hρ,zl,zL,z⟩
  simp (disch:=first|rfl|omega)only[S1,aC,aE,aM,aJ,zB,u]
  refine cM (fun h=> ?_) (fun h=> ?_)
  ·have h0:=ae h
   have hx:=lx.getD (k-1)
   simp (disch:=first|rfl|omega)only[S1,aC,aE,aM,aJ,zB,zG,e0,d,f,o,u,sn,so]
   have hq:=aGD hρ hx
   rw[bL1,bJR]at hq
   rw[bKg hq]
   refine⟨k-1,by omega,by omega,_,_,rfl,rfl,rfl,bK6 _ hn,by simp [zl],jQ zL hq, ?_⟩
   have:=aJI (xs:=xs) (zs:=zs) (j:=k-1) (n:=n) (r:=ρ) (by omega) zl (by rw[show k-1+1=k by omega];exact z)
   rw[bJR 4294967296,bL1 (xs.getD (k-1) 0)]at this
   exact this
  ·have h0:=af h
   obtain rfl:k=0:=by omega
   simp only[bJV]at z
   simp (disch:=first|rfl|omega)only[S1,zB,zG,f]
   rw[vQ (zs:=zs) (by omega) so zl (by omega)]
   simp (disch:=first|rfl|omega)only[S1,zB,reduceCtorEq,o]
   rw[aIb (by omega) so (by omega) (cQ.int _ _) (by simp only[cV];decide),iI zL]
   rw[z,Nat.mul_add_div hn,bLl hρ,bKR,Nat.mul_add_mod,bKg hρ,bKg (bKV hρ G)]
theorem bEW:bO PG 191 f191 [4,35,22] []=true:=by kernel_rfl
theorem bFY{xs ys:List Nat}(hx:xs.length<9000000)(v:ys.length<9000000)(lx:bD xs)(ly:bD ys):VX (m+2) 191 [tW xs,tW ys]=some (.tp [tW (aO (val xs+val ys))],true):=by
 refine bX rfl func191 bEW rfl ?_
 simp only[f191,N1,bC,bF,bH,bG,bE,zB,zG]
 simp (disch:=first|rfl|omega)only[S1,aN,aC,aE,aM,aJ,zB,zD]
 have J:∃N,N<9000000/\(xs.length<ys.length->ys.length=N)/\(¬xs.length<ys.length->xs.length=N):=⟨max xs.length ys.length,by omega,by omega,by omega⟩
 obtain⟨N,J,n1,M⟩:=J
 refine cM (fun h=> ?_) (fun h=> ?_)
 all_goals
  simp (disch:=first|rfl|omega)only[S1,aN,aC,aE,aM,aJ,zB,zH]
  refine .up (fun k e s=>∃ps qs b zs,s.nxt=1/\s.ob 0=⟨0,zs.map wc⟩/\e 0=some (tW ps)/\e 1=some (tW qs)/\e 5=some (.ow 0 0 (N+1) 1)/\e 6=some (.int .u64 (b:Nat))/\e 7=some (.int .i64 (k:Nat))/\ps.length=N/\qs.length<=N/\bD ps/\bD qs/\val ps+val qs=val xs+val ys/\b<=1/\zs.length=N+1/\bD zs/\(∀j,k<=j->zs.getD j 0=0)/\val (zs.take k)+4294967296^k*b=val (ps.take k)+val (qs.take k)) N ?_ (dB (by omega)) ?_
  ·first
    | (have h0:xs.length<ys.length:=ae h
       rw[←n1 h0]
       refine⟨ys,xs,0,bJL (ys.length+1) 0, ?_⟩
       simp (disch:=first|rfl|omega)only[S1,zB,zH]
       exact⟨bKb h0,ly,lx,bL1 _ _,qO _,fun j _=>xI _ _,by simp [val]⟩)
    | (have h0:¬xs.length<ys.length:=af h
       rw[←M h0]
       refine⟨xs,ys,0,bJL (xs.length+1) 0, ?_⟩
       simp (disch:=first|rfl|omega)only[S1,zB,zH]
       exact⟨bLG h0,lx,ly,qO _,fun j _=>xI _ _,by simp [val]⟩)
  ·rintro k e s H ⟨ps,qs,b,zs,sn,so,e0,d,p,f,o,al,bl,la,lb,hs,K,zl,zL,q,a⟩
   simp (disch:=first|rfl|omega)only[S1,aN,zB,e0,o]
   refine cM (fun h=> ?_) (fun h=> ?_)
   ·have h0:=ae h
    have h1:=la.getD k
    have h2:=lb.getD k
    have t:=aX5 (zs:=zs) (by omega) a
    have g:bD (zs.set k ((b+ps.getD k 0+qs.getD k 0)%4294967296)):=jQ zL (bK6 _ (by decide))
    simp (disch:=first|rfl|omega)only[S1,aN,zB,e0,d,f,o]
    refine cM (fun w=> ?_) (fun w=> ?_)
    ·have x:=ae w
     simp (disch:=first|rfl|omega)only[S1,aC,aE,aM,aJ,zB,zG,e0,d,p,f,o,sn,so]
     exact⟨by omega,_,_,_,_,rfl,rfl,rfl,rfl,al,bl,la,lb,hs,by omega,by simp [zl],g,fun j D=>by rw[getD_set_ne (by omega)];exact q j (by omega),t⟩
    ·have x:=af w
     rw[show qs.getD k 0=0 from qQ (by omega)]at t g
     simp (disch:=first|rfl|omega)only[S1,aC,aE,aM,aJ,zB,zG,e0,d,p,f,o,sn,so]
     exact⟨by omega,_,_,_,_,rfl,rfl,rfl,rfl,al,bl,la,lb,hs,by omega,by simp [zl],g,fun j D=>by rw[getD_set_ne (by omega)];exact q j (by omega),t⟩
   ·have h0:=af h
    obtain rfl:k=N:=by omega
    rw[bJU (l:=ps) (by omega),bJU (l:=qs) bl]at a
    simp (disch:=first|rfl|omega)only[S1,aN,zB,zG,e0,p,f,al,sn,so]
    rw[vQ (zs:=zs.set k (b%4294967296)) (by rw[nE];omega) (by simp [VS.set]) (by simp [zl]) (by omega)]
    simp (disch:=first|rfl|omega)only[S1,zB,reduceCtorEq]
    have A:=aJu (xs:=zs) (j:=k) (by omega) (b%4294967296)
    have B:=nZ zs k
    rw[bJU (by omega)]at B
    rw[q k (bJE _)]at A B
    rw[bKg (by omega)]at A ⊢
    rw[xS (by rw[nE];omega) (by simp [VS.set]),iI (jQ zL (by omega)),show val (zs.set k b)=val xs+val ys by omega]
theorem bB2:bO PG 149 f149 [4,22,16] []=true:=by kernel_rfl
theorem aK2{xs ys:List Nat}(hx:xs.length<9000000)(y:ys.length<=xs.length)(lx:bD xs)(ly:bD ys)(z:val ys<=val xs):VX (m+2) 149 [tW xs,tW ys]=some (.tp [tW (aO (val xs-val ys))],true):=by
 refine bX rfl func149 bB2 rfl ?_
 simp only[f149,N1,bC,bF,bH,bG,bE,zB,zG]
 simp (disch:=first|rfl|omega)only[S1,aN,aC,aE,aM,aJ,zB,zD]
 refine .up (fun k e s=>∃b zs,s.nxt=1/\s.ob 0=⟨0,zs.map wc⟩/\e 0=some (tW xs)/\e 1=some (tW ys)/\e 5=some (.ow 0 0 xs.length 1)/\e 6=some (.int .u64 (b:Nat))/\e 7=some (.int .i64 (k:Nat))/\b<=1/\zs.length=xs.length/\bD zs/\val (zs.take k)+val (ys.take k)=val (xs.take k)+4294967296^k*b) xs.length ?_ (dB (by omega)) ?_
 ·refine⟨0,bJL xs.length 0, ?_⟩
  simp (disch:=first|rfl|omega)only[S1,zB,zH]
  simp [val,qO]
 ·rintro k e s H ⟨b,zs,sn,so,e0,d,p,f,o,K,zl,zL,a⟩
  simp (disch:=first|rfl|omega)only[S1,aN,zB,e0,o]
  refine cM (fun h=> ?_) (fun h=> ?_)
  ·have h0:=ae h
   have h1:=lx.getD k
   have h2:=ly.getD k
   have t:=aM9 (zs:=zs) (by omega) h1 h2 K a
   have g:bD (zs.set k ((xs.getD k 0+4294967296-ys.getD k 0-b)%4294967296)):=jQ zL (bK6 _ (by decide))
   simp (disch:=first|rfl|omega)only[S1,aN,aC,aE,aM,aJ,zB,d,o]
   refine cM (fun w=> ?_) (fun w=> ?_)
   ·have x:=ae w
    simp (disch:=first|rfl|omega)only[S1,aC,aE,aM,aJ,zB,zG,e0,d,p,f,o,sn,so]
    exact⟨h0,_,_,rfl,rfl,by omega,by simp [zl],g,t⟩
   ·have x:=af w
    rw[show ys.getD k 0=0 from qQ (by omega)]at t g
    simp (disch:=first|rfl|omega)only[S1,aC,aE,aM,aJ,zB,zG,e0,d,p,f,o,sn,so]
    exact⟨h0,_,_,rfl,rfl,by omega,by simp [zl],g,t⟩
  ·have h0:=af h
   obtain rfl:k=xs.length:=by omega
   rw[bJU (by omega),bJU y,bKp]at a
   have q:=jE zL
   rw[zl]at q
   have hb0:b=0:=by
    rcases bJS 0 b with hb0|hb0
    ·have:b=1:=by omega
     subst this;omega
    ·omega
   subst hb0
   simp (disch:=first|rfl|omega)only[S1,zB,p]
   rw[vQ (zs:=zs) (by omega) so zl (by omega)]
   simp (disch:=first|rfl|omega)only[S1,zB,reduceCtorEq]
   rw[xS (by omega) so,iI zL,show val zs=val xs-val ys by omega]
theorem aQM{xs ys:List Nat}(hx:xs.length<9000000)(y:ys.length<=xs.length)(lx:bD xs)(ly:bD ys)(z:val ys<=val xs):CC (VX (m+2)) 149 [tW xs,tW ys] (tW (aO (val xs-val ys))):= .fr (Can.cons (jF _) (Can.cons (jF _) Can.nil)) (by simp only[bT,fK];decide) (aK2 hx y lx ly z)
theorem bAG:bO PG 192 f192 [4,24,18] []=true:=by kernel_rfl
theorem aQd{xs ys:List Nat}(hx:xs.length<4000000)(v:ys.length<4000000)(lx:bD xs)(ly:bD ys):VX (m+2) 192 [tW xs,tW ys]=some (.tp [tW (aO (val xs*val ys))],true):=by
 refine bX rfl func192 bAG rfl ?_
 simp only[f192,N1,bC,bF,bH,bG,bE,zB,zG]
 simp (disch:=first|rfl|omega)only[S1,aN,aC,aE,aM,aJ,zB,zD]
 refine .up (fun k e s=>∃zs,s.nxt=1/\s.ob 0=⟨0,zs.map wc⟩/\e 0=some (tW xs)/\e 1=some (tW ys)/\e 5=some (.ow 0 0 (xs.length+ys.length) 1)/\e 6=some (.int .i64 (k:Nat))/\zs.length=xs.length+ys.length/\bD zs/\(∀j,k+ys.length<=j->zs.getD j 0=0)/\val zs=val (xs.take k)*val ys) xs.length ?_ (dB (by omega)) ?_
 ·refine⟨bJL (xs.length+ys.length) 0, ?_⟩
  simp (disch:=first|rfl|omega)only[S1,zB]
  simp only[qO,aHK,xI,val]
  simp
 ·rintro i e s O ⟨zs,sn,so,e0,d,p,f,zl,zL,q,a⟩
  simp (disch:=first|rfl|omega)only[S1,aN,zB,e0,f]
  refine cM (fun h=> ?_) (fun h=> ?_)
  ·have h0:=ae h
   have h1:=lx.getD i
   simp (disch:=first|rfl|omega)only[S1,aC,aE,aM,aJ,zB]
   refine .up (fun k e s=>∃c zs,s.nxt=1/\s.ob 0=⟨0,zs.map wc⟩/\e 0=some (tW xs)/\e 1=some (tW ys)/\e 5=some (.ow 0 0 (xs.length+ys.length) 1)/\e 6=some (.int .i64 (i:Nat))/\e 7=some (.int .u64 (c:Nat))/\e 8=some (.int .i64 (k:Nat))/\c<4294967296/\zs.length=xs.length+ys.length/\bD zs/\(∀j,i+ys.length<=j->zs.getD j 0=0)/\val zs+4294967296^(i+k)*c=val (xs.take i)*val ys+4294967296^i*xs.getD i 0*val (ys.take k)) ys.length ?_ (dB (by omega)) ?_
   ·refine⟨0,zs, ?_⟩
    simp (disch:=first|rfl|omega)only[S1,zB,zG,e0,d,p,f,sn,so]
    simp only[zl,zL,a,true_and,val,bLz,bKR,and_true]
    exact q
   ·rintro k e s H ⟨c,zs,sn,so,e0,d,p,f,o,u,hc,zl,zL,q,a⟩
    simp (disch:=first|rfl|omega)only[S1,aN,zB,d,u]
    refine cM (fun h2=> ?_) (fun h2=> ?_)
    ·have C:=ae h2
     have v:=ly.getD k
     have I:=zL.getD (i+k)
     obtain⟨P,Q⟩:=aLP hc I h1 v
     have t:=aM0 (by omega) a
     simp (disch:=first|rfl|omega)only[S1,aC,aE,aM,aJ,zB,reduceCtorEq,zG,e0,d,p,f,o,u,sn,so]
     refine⟨C,_,_,rfl,rfl, ?_,by simp [zl],jQ zL (bK6 _ (by decide)),fun j D=> ?_,t⟩
     ·omega
     ·rw[getD_set_ne (by omega)];exact q j D
    ·have C:=af h2
     obtain rfl:k=ys.length:=by omega
     have t:=aM5 h0 zl (q _ (bJE _)) a
     simp (disch:=first|rfl|omega)only[S1,aN,aC,aE,aM,aJ,zB,zC,reduceCtorEq,zG,e0,d,p,f,o,sn,so]
     refine⟨h0,_,rfl,by simp [zl],jQ zL ?_,fun j D=> ?_, ?_⟩
     ·exact bK6 _ (by decide)
     ·rw[getD_set_ne (by omega)];exact q j (by omega)
     ·rw[bKg hc];exact t
  ·have h0:=af h
   obtain rfl:i=xs.length:=by omega
   rw[bKp]at a
   simp (disch:=first|rfl|omega)only[S1,zB,p]
   rw[vQ (zs:=zs) (by omega) so zl (by omega)]
   simp (disch:=first|rfl|omega)only[S1,zB,reduceCtorEq]
   rw[xS (by omega) so,iI zL,a]
theorem bDa{xs ys:List Nat}(hx:xs.length<4000000)(v:ys.length<4000000)(lx:bD xs)(ly:bD ys):CC (VX (m+2)) 192 [tW xs,tW ys] (tW (aO (val xs*val ys))):= .fr (Can.cons (jF _) (Can.cons (jF _) Can.nil)) (by simp only[bT,fK];decide) (aQd hx v lx ly)
theorem bG4{xs ys:List Nat}(hx:xs.length<9000000)(v:ys.length<9000000)(lx:bD xs)(ly:bD ys):CC (VX (m+2)) 191 [tW xs,tW ys] (tW (aO (val xs+val ys))):= .fr (Can.cons (jF _) (Can.cons (jF _) Can.nil)) (by simp only[bT,fK];decide) (bFY hx v lx ly)
theorem aZn:bO PG 146 f146 [2] []=true:=by kernel_rfl
theorem bAj{xs:List Nat}(O:xs.length<10000000)(lx:bD xs):VX (m+1) 146 [tW xs]=some (.int .i64 (aAI xs:Nat),false):=by
 refine bX rfl func146 aZn rfl ?_
 simp only[f146,N1,bC,bF,bH,bG,bE,zB,zG]
 simp (disch:=first|rfl|omega)only[S1,aN,aC,aE,aM,aJ,zB]
 refine cM (fun h=> ?_) (fun h=> ?_)
 ·have h0:=ae h
  simp (disch:=first|rfl|omega)only[S1,aC,aE,aM,aJ,zB,reduceCtorEq]
  rw[aAI,if_pos h0]
 ·have h0:=af h
  have hx:=lx.getD (xs.length-1)
  have i':=aBT (k:=32) (x:=xs.getD (xs.length-1) 0) hx
  have hL:aAI xs=32*(xs.length-1)+blen (xs.getD (xs.length-1) 0):=by rw[aAI,if_neg h0]
  simp (disch:=first|rfl|omega)only[S1,aN,aC,aE,aM,aJ,zB]
  refine .loop (fun n e s=>s=dZ/\e 0=some (tW xs)/\∃i z,e 3=some (.int .i64 (i:Nat))/\e 4=some (.int .u32 (z:Nat))/\z<4294967296/\i+blen z=blen (xs.getD (xs.length-1) 0)/\n=blen z) _ ⟨?_, ?_,0,xs.getD (xs.length-1) 0, ?_, ?_,hx,bKi _,rfl⟩ (dB (by omega)) ?_
  ·simp (disch:=first|rfl|omega)only[]
  ·simp (disch:=first|rfl|omega)only[S1,zB]
  ·simp (disch:=first|rfl|omega)only[S1,zB]
  ·simp (disch:=first|rfl|omega)only[S1,zB]
  ·rintro n e s ⟨rfl,e0,i,z,P,S,W,hi,rfl⟩
   simp (disch:=first|rfl|omega)only[S1,aC,aE,aM,aJ,zB,S]
   refine cM (fun h=> ?_) (fun h=> ?_)
   ·have h1:=ae h
    have hb:=aAt (x:=z) (by omega)
    simp (disch:=first|rfl|omega)only[S1,aC,aE,aM,aJ,zB,e0,P,S]
    refine⟨blen (z/2),by omega,i+1,z/2,rfl,rfl,by omega,by omega,rfl⟩
   ·have h1:=af h
    obtain rfl:z=0:=by omega
    rw[aBz]at hi
    simp (disch:=first|rfl|omega)only[S1,aN,aC,aE,aM,aJ,zB,reduceCtorEq,zG,e0,P]
    rw[hL,←hi];rfl
theorem bE3:bO PG 150 f150 [4,26] []=true:=by kernel_rfl
theorem bHa{xs:List Nat}{sh:Nat}(O:xs.length<9000000)(lx:bD xs)(hs:sh<32):VX (m+2) 150 [tW xs,.int .i64 (sh:Nat)]=some (.tp [tW (aO (val xs/2^sh))],true):=by
 refine bX rfl func150 bE3 rfl ?_
 simp only[f150,N1,bC,bF,bH,bG,bE,zB,zG]
 simp (disch:=first|rfl|omega)only[S1,aN,aC,aE,aM,aJ,zB,zD]
 refine .up (fun k e s=>∃zs:List Nat,s.nxt=1/\s.ob 0=⟨0,zs.map wc⟩/\e 0=some (tW xs)/\e 1=some (.int .i64 (sh:Nat))/\e 5=some (.ow 0 0 xs.length 1)/\e 6=some (.int .i64 (k:Nat))/\zs.length=xs.length/\(∀j,j<k->zs.getD j 0=rA xs sh j)) xs.length ?_ (dB (by omega)) ?_
 ·refine⟨bJL xs.length 0, ?_⟩
  simp (disch:=first|rfl|omega)only[S1,zB]
  exact fun j B=>absurd B (by omega)
 ·rintro k e s X ⟨zs,sn,so,e0,c,f,l,zl,W⟩
  simp (disch:=first|rfl|omega)only[S1,aN,zB,e0,l]
  refine cM (fun h=> ?_) (fun h=> ?_)
  ·have h0:=ae h
   have h1:=lx.getD k
   have h2:=lx.getD (k+1)
   simp (disch:=first|rfl|omega)only[S1,aN,aC,aE,aM,aJ,zB,e0,l]
   refine cM (fun h=> ?_) (fun h=> ?_)
   ·have h3:=ae h
    simp (disch:=first|rfl|omega)only[S1,aC,aE,aM,aJ,zB,zG,e0,c,f,l,sn,so,yG (n:=sh)]
    exact⟨h0,_,rfl,by simp [zl],aFf (by omega) W (by rw[rA,bJR])⟩
   ·have h3:=af h
    simp (disch:=first|rfl|omega)only[S1,aC,aE,aM,aJ,zB,zG,e0,c,f,l,sn,so,yG (n:=sh)]
    exact⟨h0,_,rfl,by simp [zl],aFf (by omega) W (by rw[rA,show xs.getD (k+1) 0=0 from qQ (by omega),bLz,bKR])⟩
  ·have h0:=af h
   obtain rfl:k=xs.length:=by omega
   have e:zs=nK sh xs:=aFA (by rw[zl,aHN]) fun j B=>by rw[W j (by omega),aMD sh xs j (by omega)]
   have zL:bD zs:=by rw[e];exact aMu _ _
   simp (disch:=first|rfl|omega)only[S1,zB,f]
   rw[vQ (zs:=zs) (by omega) so zl (by omega)]
   simp (disch:=first|rfl|omega)only[S1,zB,reduceCtorEq]
   rw[xS (by omega) so,iI zL,e,aNh hs lx]
theorem aXb:bO PG 147 f147 [4] []=true:=by kernel_rfl
theorem aNY{xs:List Nat}{sh:Nat}{s:VS}{orc:cP}(O:xs.length<9000000)(lx:bD xs)(hs:sh<32):∃R s1,fI PG bZ orc lC 147 [tW xs,.int .i64 (sh:Nat)] s=some (R,s1)/\R= .ow s.nxt 0 (xs.length+1) 1/\s1.nxt=s.nxt+1/\(∀k,k<s.nxt->s1.ob k=s.ob k)/\∃zs:List Nat,s1.ob s.nxt=⟨0,zs.map wc⟩/\zs.length=xs.length+1/\bD zs/\val zs=val xs*2^sh:=by
 refine aC7 (n:=7) rfl func147 aXb rfl ?_
 simp only[f147,N1,bC,bF,bH,bG,bE,zB,zG]
 simp (disch:=first|rfl|omega)only[S1,aH,aN,aC,aE,aM,aJ,zB,zD,zH]
 refine .up (fun k e s1=>s1.nxt=s.nxt+1/\(∀k,k<s.nxt->s1.ob k=s.ob k)/\∃zs:List Nat,s1.ob s.nxt=⟨0,zs.map wc⟩/\e 0=some (tW xs)/\e 1=some (.int .i64 (sh:Nat))/\e 5=some (.ow s.nxt 0 (xs.length+1) 1)/\e 6=some (.int .i64 (k:Nat))/\zs.length=xs.length+1/\bD zs/\zs.getD k 0<2^sh/\(∀j,k<j->zs.getD j 0=0)/\val (zs.take (k+1))=val (xs.take k)*2^sh) xs.length ?_ (dB (by omega)) ?_
 ·have hp:0<2^sh:=bKt (by decide)
  refine⟨rfl,fun k X=> ?_,bJL (xs.length+1) 0, ?_⟩
  ·rw[gY,show(k==s.nxt)=false by simp;omega];rfl
  simp (disch:=first|rfl|omega)only[S1,zB]
  refine⟨qO _,by rw[xI];exact hp,fun j _=>xI _ _,by simp [val,bL7]⟩
 ·rintro k e s1 X ⟨sn,sk,zs,so,e0,c,f,l,zl,zL,z1,z2,z3⟩
  simp (disch:=first|rfl|omega)only[S1,aN,zB,e0,l]
  refine cM (fun h=> ?_) (fun h=> ?_)
  ·have h0:=ae h
   have h1:=lx.getD k
   have h2:=aOP hs h1
   have h3:=zL.getD k
   have Z:=aNu hs h0 h1 zl zL z1 z2 z3
   have C:=aSr (x:=xs.getD k 0) hs z1
   have j':(zs.set k (zs.getD k 0+xs.getD k 0*2^sh%4294967296)).length=xs.length+1:=by rw[bKT,zl]
   have a':xs.getD k 0*2^sh/4294967296%4294967296=xs.getD k 0*2^sh/4294967296:=bKg (by omega)
   simp (disch:=first|rfl|omega)only[S1,aC,aE,aM,aJ,zB,reduceCtorEq,e0,c,f,l,sn,so,yA (n:=sh),C,a']
   refine⟨h0,fun j B=> ?_,_,rfl,Z⟩
   rw[show(j==s.nxt)=false by simp;omega]
   exact sk j B
  ·have h0:=af h
   obtain rfl:k=xs.length:=by omega
   rw[bJU (by omega),bKp]at z3
   simp (disch:=first|rfl|omega)only[S1,zB,reduceCtorEq,f,sn,so]
   exact⟨_,rfl,rfl,sk,zs,rfl,zl,zL,z3⟩
theorem aWB{U V T v D Q:Nat}(hT:T*D<=U)(hV:V<(v+1)*D)(p:Q*v<=T)(h1:Q<4294967296)(h2:4294967296<=2*v)(g:0<V):Q<=U/V+2:=by
 rcases bJS (U/V+2) Q with h|h
 ·exfalso
  have c:U<V*(U/V+1):=Nat.lt_mul_div_succ U g
  generalize U/V=q at*
  have e2:V*(q+1)<=(v+1)*D*(q+1):=bK8 _ (bKb hV)
  have P:Q*v*D<=T*D:=bK8 _ p
  have S:(q+3)*v<=Q*v:=bK8 _ (by omega)
  have f:Q*v*D<(v+1)*(q+1)*D:=by
   have:(v+1)*D*(q+1)=(v+1)*(q+1)*D:=by rw[bK1,bJR D,bK1]
   omega
  have l:Q*v<(v+1)*(q+1):=Nat.lt_of_mul_lt_mul_right f
  have e7:(q+3)*v=q*v+3*v:=bKw _ _ _
  have e8:(v+1)*(q+1)=q*v+v+q+1:=by rw[bKw,bK4,bJR v q];omega
  omega
 ·exact h
theorem aF7{et:fP}{k:bR6}:bU et .lss (.int k (-1)) (.int k ((0:Nat):Int))=some (.b true):=by simp [bU,dX]
theorem bAV:bO PG 148 f148 [5,4,42,32] []=true:=by kernel_rfl
theorem bE6{zs ys:List Nat}{V kk k k2 off:Nat}{s:VS}(E:k2<s.nxt)(o:s.ob k2=⟨0,ys.map wc⟩)(k':kk+1<=ys.length)(t:ys.take (kk+1)=aO V)(X:k<s.nxt)(C:s.ob k=⟨0,zs.map wc⟩)(O:off+(kk+2)<=zs.length)(hb:kk<3000000)(zL:bD zs)(hV:(aO V).length=kk+1)(hn:4294967296^kk*2147483648<=V)(F:val ((zs.drop off).take (kk+2))<V*4294967296):
  ∃R s1,fI PG bZ (VX (m+2)) lC 148 [.ow k off (kk+2) 1,.ow k2 0 (kk+1) 1] s=some (R,s1)/\R= .tp [.int .u32 ((val ((zs.drop off).take (kk+2))/V:Nat):Int),tW (aO (val ((zs.drop off).take (kk+2))/V*V))]/\s1.nxt=s.nxt+1/\∀j,j<s.nxt->s1.ob j=s.ob j:=by
 refine aC7 (n:=7) rfl func148 bAV rfl ?_
 obtain⟨xs,a⟩:∃xs,(zs.drop off).take (kk+2)=xs:=⟨_,rfl⟩
 rw[a]at F ⊢
 have u:xs.length=kk+2:=by rw[←a];simp;omega
 have lx:bD xs:=by rw[←a];exact(zL.drop off).take _
 have g1:zs.getD (off+(kk+1)) 0=xs.getD (kk+1) 0:=by rw[←a,getD_take (by omega),vH]
 have g0:zs.getD (off+kk) 0=xs.getD kk 0:=by rw[←a,getD_take (by omega),vH]
 have g2:ys.getD kk 0=(aO V).getD kk 0:=by rw[←t,getD_take (by omega)]
 have l':=lx.getD (kk+1)
 have m':=lx.getD kk
 have hy:=(cU V).getD kk
 have d:=aWk u lx hV
 have H:=aPr u lx
 have I:=aLO hV (cU V)
 rw[cO]at I
 have J:=aRj hV
 simp only[f148,N1,bC,bF,bH,bG,bE,zB,zG]
 simp (disch:=first|rfl|omega)only[S1,aH,aN,aC,aE,aM,aJ,zB,reduceCtorEq,zD,C,o,g0,g1,g2,bKs]
 obtain⟨G,Y⟩:∃G,(xs.getD (kk+1) 0*4294967296+xs.getD kk 0)/(aO V).getD kk 0=G:=⟨_,rfl⟩
 rw[Y]
 have n':G<18446744073709551616:=by
  rw[←Y]
  exact bK9 (bLb _ _) (by omega)
 have g:0<V:=bJK (bKG (aDr kk) (by decide)) hn
 have b':4294967296<=2*(aO V).getD kk 0:=by
  rcases bJS ((aO V).getD kk 0) 2147483648 with h|h
  ·exfalso
   have c:((aO V).getD kk 0+1)*4294967296^kk<=2147483648*4294967296^kk:=bK8 _ h
   rw[bJR]at hn
   omega
  ·omega
 have hq:val xs/V<4294967296:=bLy F
 have near:∀Q,Q<4294967296->Q<=G->Q<=val xs/V+2:=fun Q p c'=>by
  refine aWB (T:=xs.getD kk 0+4294967296*xs.getD (kk+1) 0) (D:=4294967296^kk) (v:=(aO V).getD kk 0) ?_ I ?_ p b' g
  ·rw[←H];exact bM8 _ _
  ·rw[bJR 4294967296,bL1,←bLS J,Y];exact c'
 rw[bL1,bJR 4294967296,Y]at d
 have w:∀Q:Nat,Q<4294967296->fI PG bZ (VX (m+2)) 7 192 [.ow k2 0 (kk+1) 1,.ow s.nxt 0 1 1] (s.new [.int .u32 (Q:Nat)])=some (tW (aO (Q*V)),s.new [.int .u32 (Q:Nat)]):=fun Q p=>by
  have h1:=aQd (m:=m) (xs:=aO V) (ys:=[Q]) (by omega) (by simp) (cU V) (bD.cons p bD.nil)
  rw[show val [Q]=Q by simp [val],cO,bJR]at h1
  rw[vJ 192 rfl]
  exact bAR (zs:=ys) (ys:=[Q]) (by simp only[bJV,bLE,bLq];rw[t,h1];exact .fr) (bM5 E) (by rw[gY,show(k2==s.nxt)=false by simp;omega];exact o) (by omega) (by omega) (bJT _) (by rw[gY,beq_self_eq_true];rfl) (by simp) (by decide) (by omega)
 refine cM (fun h=> ?_) (fun h=> ?_)
 all_goals
  have p:∃Q,Q<4294967296/\val xs/V<=Q/\Q<=G/\((decide (4294967295<G)=true->Q=4294967295)/\(decide (4294967295<G)=false->Q=G)):=by
   by_cases hg:4294967295<G
   ·exact⟨4294967295,by decide,by omega,by omega,fun _=>rfl,fun h=>by simp [hg]at h⟩
   ·exact⟨G,by omega,d,bJE _,fun h=>by simp [hg]at h,fun _=>rfl⟩
  obtain⟨Q,A,q2,q3,q4,q5⟩:=p
  have q6:=near Q A q3
  first
   | (have q7:4294967295%4294967296=Q:=by have:=q4 h;omega
      have q8:(4294967295:Nat)=Q:=by have:=q4 h;omega)
   | (have q7:G%4294967296=Q:=by have:=q5 h;omega
      have q8:G=Q:=by have:=q5 h;omega)
  simp (disch:=first|rfl|omega)only[S1,aC,aE,aM,aJ,aD,zB,zE,zH,bL7,List.replicate_zero,bLL,List.flatten_nil,q7,w Q A]
  refine .loop (fun n e s1=>∃Q,Q<4294967296/\val xs/V<=Q/\n=Q-val xs/V/\s1.nxt=s.nxt+1/\(∀j,j<s.nxt->s1.ob j=s.ob j)/\e 0=some (.ow k off (kk+2) 1)/\e 1=some (.ow k2 0 (kk+1) 1)/\e 7=some (.int .u64 (Q:Nat))/\e 8=some (tW (aO (Q*V)))) (Q-val xs/V) ?_ (dB (by omega)) ?_
  ·refine⟨Q,A,q2,rfl,rfl,fun j B=>by rw[gY,show(j==s.nxt)=false by simp;omega];rfl, ?_⟩
   simp (disch:=first|rfl|omega)only[S1,zB,q8]
  ·rintro n e s1 ⟨Q,A,q2,rfl,sn,so,e0,c,e7,e8⟩
   have K:k<s1.nxt:=by omega
   have L:=(so k X).trans C
   have ht:fI PG bZ (VX (m+2)) 7 65 [.ow k off (kk+2) 1] s1=some (.ow k off (aO (val xs)).length 1,s1):=by
    rw[aOZ (n:=6) (by omega) K L O,a,iI lx]
   have g':(aO (val xs)).length<=kk+2:=by rw[←iI lx,←u];exact qN _
   have y:(zs.drop off).take (aO (val xs)).length=aO (val xs):=by
    rw[←iI lx]
    conv=>rhs;rw[nA,←a]
    rw[bKC,bK7 (by have:=qN xs;rw[a];omega),a]
   have hc:fI PG bZ (VX (m+2)) 7 68 [.ow k off (aO (val xs)).length 1,tW (aO (Q*V))] s1=some (.int .i64 (nQ (aO (val xs)) (aO (Q*V))),s1):=by
    rw[vJ 68 rfl]
    exact aPY (zs:=zs) (by rw[y,aNl (m:=m+1) (by omega) (cU _) (cU _)];exact .sc rfl) K L (by omega) (by omega)
   rw[aHY]at hc
   by_cases b:val xs<Q*V
   ·rw[if_pos b]at hc
    have d':val xs/V<Q:=(Nat.div_lt_iff_lt_mul g).2 b
    have e':0<Q:=bK9 (bJJ _) d'
    have M:V<=Q*V:=Nat.le_mul_of_pos_left V e'
    have h':(aO (Q*V)).length<=kk+2:=lK (by
     have h1:=jE (cU V)
     rw[cO,hV]at h1
     have h2:Q*V<4294967296*4294967296^(kk+1):=bLA A h1
     rw[show kk+2=(kk+1)+1 from rfl,bJX,bJR (4294967296^(kk+1))];exact h2)
    have N:=aK2 (m:=m) (xs:=aO (Q*V)) (ys:=aO V) (by omega) (oX M) (cU _) (cU _) (by rw[cO,cO];exact M)
    rw[cO,cO,show Q*V-V=(Q-1)*V by rw[Nat.sub_mul,bLI]]at N
    have hm:fF (VX (m+2)) 149 [tW (aO (Q*V)),.ow k2 0 (kk+1) 1] s1=some (tW (aO ((Q-1)*V)),s1):=aOT (zs:=ys) (by rw[bJV,t,N];exact .fr) (by omega) ((so k2 E).trans o) (by omega) (by omega)
    simp (disch:=first|rfl|omega)only[S1,aC,aE,aM,aJ,zB,e0,c,e7,e8,ht,hc,aF7,vJ 149 rfl,hm]
    exact⟨Q-1-val xs/V,by omega,Q-1,by omega,by omega,rfl,sn,so,rfl,rfl⟩
   ·rw[if_neg b]at hc
    obtain⟨r,Z⟩:∃r:Nat,(if Q*V<val xs then(1:Int)else 0)=(r:Int):=by
     split
     ·exact⟨1,rfl⟩
     ·exact⟨0,rfl⟩
    rw[Z]at hc
    have f':Q=val xs/V:=by
     have:=(bLS g).2 (bLG b)
     omega
    simp (disch:=first|rfl|omega)only[S1,aC,aE,aM,aJ,zB,reduceCtorEq,e0,e7,e8,ht,hc,bKM]
    exact⟨_,rfl,by rw[bKg A,f'],sn,so⟩
theorem vT(xs ys:List Nat):Can [tW xs,tW ys]:=Can.cons (jF _) (Can.cons (jF _) Can.nil)
theorem vR(xs:List Nat):Can [tW xs]:=Can.cons (jF _) Can.nil
theorem aK7(xs:List Nat)(k:bR6)(z:Int):Can [tW xs,.int k z]:=Can.cons (jF _) (Can.cons (cQ.int _ _) Can.nil)
theorem aIp{a b:Nat}(ha:(aO a).length<10000000):CC (VX (m+1)) 68 [tW (aO a),tW (aO b)] (.int .i64 (if a<b then-1 else if b<a then 1 else 0)):= .of (vT _ _) (by simp only[bT,fK];decide) (by rw[aNl ha (cU _) (cU _),aHY])
theorem aJR{xs:List Nat}(I:xs.length<=2)(lx:bD xs):CC (VX (m+1)) 107 [tW xs] (.int .u64 (val xs:Nat)):= .of (vR _) (by simp only[bT,fK];decide) (bEQ I lx)
theorem bJ9{xs:List Nat}{n:Nat}(I:xs.length<10000000)(lx:bD xs)(hn:0<n)(i':n<4294967296):CC (VX (m+2)) 145 [tW xs,.int .u32 (n:Nat)] (.tp [tW (aO (val xs/n)),.int .u32 ((val xs%n:Nat):Int)]):= .of (aK7 _ _ _) (by simp only[bT,fK,cV];decide) (aUZ I lx hn i')
theorem bBt{xs:List Nat}(I:xs.length<10000000)(lx:bD xs):CC (VX (m+1)) 146 [tW xs] (.int .i64 (aAI xs:Nat)):= .of (vR _) (by simp only[bT,fK];decide) (bAj I lx)
theorem aDO{s:VS}{xs ys:List Nat}:dJ s [tW xs,tW ys]=some (.tp [tW xs,tW ys],false):=by
 have h:=(nC cL).2 (s:=s) (vT xs ys).1 (by simp only[bT,fK];decide)
 have h2:=(vT xs ys).2
 cases xs<;>(simp only[tW,tL,bMH,bKc]at h h2 ⊢;simp only[dJ,h,bKe,h2])
theorem aQS{s:VS}{ys:List Nat}:dJ s [.nil,tW ys]=some (.tp [tW [],tW ys],false):=by
 have h:cY cL s [.nil,tW ys]=some ([.nil,tW ys],s):=(nC cL).2 (by simp only[dI,cI,(jF ys).1,bKr]) (by simp only[bT,cV,fK];decide)
 simp only[dJ,h,bKe,cG,iB,(jF ys).2];rfl
theorem aYZ:bO PG 66 f66 [5,4,114,18,105,19,17,16,77,42,27,23] []=true:=by kernel_rfl
set_option maxHeartbeats 2000000 in
theorem bAA{a b:Nat}(hb:0<b)(ha:(aO a).length<=2000000)(a2:(aO b).length<=2000000):VX (m+4) 66 [tW (aO a),tW (aO b)]=some (.tp [tW (aO (a/b)),tW (aO (a%b))],false):=by
 refine bX rfl func66 aYZ rfl ?_
 simp only[f66,N1,bC,bF,bH,bG,bE,zB,zG]
 have T:=aIp (m:=m+2) (a:=a) (b:=b) (by omega)
 by_cases q:a<b
 ·rw[if_pos q]at T
  simp (disch:=first|rfl|omega)only[S1,aC,aE,aM,aJ,zB,reduceCtorEq,zD,vJ 68 rfl,(T _).2,aF7]
  rw[aQS,bLl q,bKg q,gH]
 ·rw [if_neg q]at T
  obtain⟨r,hr⟩:∃r:Nat,(if b<a then(1:Int)else 0)=(r:Int):=by
   split
   ·exact⟨1,rfl⟩
   ·exact⟨0,rfl⟩
  rw[hr]at T
  simp (disch:=first|rfl|omega)only[S1,aN,aC,aE,aM,aJ,zB,zD,vJ 68 rfl,(T _).2,bKM]
  refine cM (fun h=> ?_) (fun h=> ?_)
  ·have h0:=ae h
   have j':(aO b).length<=2:=bJH (oX (bLG q)) h0
   have va:=jE (cU a)
   rw[cO]at va
   have va2:a<18446744073709551616:=bJK va (bK2 (n:=4294967296) (by decide) h0)
   have W:=aJR (m:=m+2) h0 (cU a)
   have X:=aJR (m:=m+2) j' (cU b)
   rw[cO]at W X
   have vb2:b<18446744073709551616:=by omega
   have k':=aG2 (m:=m+1) (n:=a/b) (bK9 (bLb _ _) va2)
   have l':=aG2 (m:=m+1) (n:=a%b) (bK9 (bMJ _ _) va2)
   simp (disch:=first|rfl|omega)only[S1,zB,reduceCtorEq,vJ 107 rfl,(W _).2,(X _).2,(k' _).1,(l' _).1]
   rw[aDO]
  ·have h0:=af h
   have Y:(aO b).length≠0:=fun e=>by
    have:=tA.1 (bKB e)
    omega
   simp (disch:=first|rfl|omega)only[S1,aN,aC,aE,aM,aJ,zB]
   refine cM (fun h=> ?_) (fun h=> ?_)
   ·have h1:=ae h
    have m':(aO b).getD 0 0=b:=by
     have:=cO b
     cases hL:aO b with
     |nil=>rw[hL]at h1;cases h1
     |cons x l=>
      rw[hL]at this h1
      simp only[bJN,Nat.add_eq_right,bMK]at h1
      subst h1
      simpa [val]using this
    have vb:=jE (cU b)
    rw[cO,h1]at vb
    have hy:=bJ9 (m:=m+1) (xs:=aO a) (n:=b) (by omega) (cU a) hb (by omega)
    rw[cO]at hy
    have hr:a%b<4294967296:=bKV (bK6 _ hb) (by omega)
    have hw:=aG2 (m:=m+1) (n:=a%b) (by omega)
    simp (disch:=first|rfl|omega)only[S1,aC,aE,aM,aJ,zB,reduceCtorEq,m',vJ 145 rfl,(hy _).2,vJ 64 rfl,(hw _).2]
    rw[aDO]
   ·have h1:=af h
    obtain⟨mm,Z⟩:∃mm,(aO b).length=mm+1:=⟨(aO b).length-1,by omega⟩
    obtain⟨n,hn⟩:∃n,(aO a).length=n:=⟨_,rfl⟩
    obtain⟨s,hs,a3,a0,C,J⟩:=aMJ Z
    have n':mm+1<=n:=by have:=oX (bLG q);omega
    have o':=aMl hn n' hs C
    have K:(aO (b*2^s)).length=mm+1:=aLt (bJH (by omega) C) J
    have F:=bBt (m:=m+2) (xs:=aO b) (by omega) (cU b)
    have p':aAI (aO b)=32*mm+blen ((aO b).getD mm 0):=by
     unfold aAI;rw[if_neg (by omega),Z];simp
    rw[p']at F
    have a4:32*(mm+1)=s+(32*mm+blen ((aO b).getD mm 0)):=by omega
    have a':32*(mm+1)-(32*mm+blen ((aO b).getD mm 0))=s:=by omega
    generalize blen ((aO b).getD mm 0)=t at*
    obtain⟨R,s1,e1,Q,n1, -,xs0,ox,xl,xL,xv⟩:=aNY (xs:=aO a) (sh:=s) (s:=dZ) (orc:=VX (m+3)) (by omega) (cU a) hs
    obtain⟨R2,s2,e2,L,S,o2,ys0,oy,yl,yL,yv⟩:=aNY (xs:=aO b) (sh:=s) (s:=s1) (orc:=VX (m+3)) (by omega) (cU b) hs
    have n1:s1.nxt=1:=n1
    have Q:R= .ow 0 0 (n+1) 1:=by rw[Q,hn];rfl
    rw[n1]at S oy o2 L
    rw[Z]at L
    subst Q L
    have ox2:s2.ob 0=⟨0,xs0.map wc⟩:=(o2 0 (by omega)).trans ox
    rw[hn]at xl
    rw[Z]at yl
    rw[cO]at xv yv
    have G:=vQ (zs:=ys0) (k:=1) (len:=mm+1+1) (s:=s2) (orc:=VX (m+3)) (by omega) oy yl (by omega)
    have M:cJ ys0=aO (b*2^s):=by rw[iI yL,yv]
    rw[M,K]at G
    have q':ys0.take (mm+1)=aO (b*2^s):=by rw[←M];conv=>rhs;rw[nA,M,K]
    generalize b':b*2^s=V at*
    generalize c':a*2^s=U at*
    have d':0<V:=bJK (bKG (aDr mm) (by decide)) C
    simp (disch:=first|rfl|omega)only[S1,aN,aC,aE,aM,aJ,zB,zC,Z,hn,vJ 146 rfl,(F _).2,a',e1,e2,G]
    refine .loop (fun k e B=>k<=n-mm/\3<=B.nxt/\∃xs qs:List Nat,B.ob 0=⟨0,xs.map wc⟩/\B.ob 1=⟨0,ys0.map wc⟩/\B.ob 2=⟨0,qs.map wc⟩/\e 10=some (.int .i64 (s:Nat))/\e 11=some (.ow 0 0 (n+1) 1)/\e 12=some (.ow 1 0 (mm+1) 1)/\e 13=some (.ow 2 0 n 1)/\e 14=some (.int .i64 (iz k))/\xs.length=n+1/\bD xs/\qs.length=n/\bD qs/\yV U V k xs qs) (n-mm) ?_ (dB (by omega)) ?_
    ·have hq:(s2.new (List.map wc (bJL n 0))).ob 2=⟨0,(bJL n 0).map wc⟩:=by rw[gY,S];rfl
     have I:iz (n-mm)=((n-(mm+1):Nat):Int):=by rw[wA (by omega)];congr 1
     refine⟨bJE _,by rw[tK,S];exact bJE _,xs0,bJL n 0,by rw[gY,S];exact ox2,by rw[gY,S];exact oy,hq, ?_⟩
     simp (disch:=first|rfl|omega)only[S1,zB,zD,S]
     exact⟨rfl,xl,xL,qO _,aPk xv (by omega) o'⟩
    ·rintro k e B ⟨hk,a5,xs,qs,z0,z1,z2,c,d,f,g,i,zl,zL,ql,qL,hI⟩
     simp (disch:=first|rfl|omega)only[S1,aC,aE,aM,aJ,zB,i]
     refine cM (fun h=> ?_) (fun h=> ?_)
     ·have h2:=ae h
      obtain⟨j,rfl⟩:∃j,k=j+1:=⟨k-1,by omega⟩
      have hU:=aLK zL (by omega) hI
      have r':V*4294967296<=4294967296^(mm+2):=by rw[bJX];exact bK8 _ (bKb J)
      have eU:val ((xs.drop j).take (mm+2))=val (xs.drop j):=aD0 (bJK hU r')
      have s':bD ((xs.drop j).take (mm+2)):=(zL.drop j).take (mm+2)
      have hsz:j+(mm+1)+1-j=mm+2:=by omega
      have t':(j=j+(mm+1)+1)=False:=by simp;omega
      obtain⟨R,s4,e4,Q,n4,o4⟩:=bE6 (m:=m+1) (zs:=xs) (ys:=ys0) (V:=V) (kk:=mm) (k:=0) (k2:=1) (off:=j) (s:=B) (by omega) z1 (by omega) q' (by omega) z0 (by omega) (by omega) zL K C (by rw[eU];exact hU)
      rw[eU]at Q
      subst Q
      have w0:=(o4 0 (by omega)).trans z0
      have w1:=(o4 1 (by omega)).trans z1
      have w2:=(o4 2 (by omega)).trans z2
      have u':3<=s4.nxt:=by omega
      obtain⟨qd,u⟩:∃qd,val (xs.drop j)/V=qd:=⟨_,rfl⟩
      rw[u]at e4
      have H:qd*V<=val (xs.drop j):=by rw[←u];exact bM8 _ _
      have E:cJ ((xs.drop j).take (mm+2))=aO (val (xs.drop j)):=by rw[iI s',eU]
      have v':(aO (val (xs.drop j))).length<=mm+2:=by rw[←E];exact bJH (qN _) (by simp;omega)
      have N:(xs.drop j).take (aO (val (xs.drop j))).length=aO (val (xs.drop j)):=by
       conv=>rhs;rw[←E,nA,E,bKC,bK7 v']
      have O:fI PG bZ (VX (m+3)) lC 65 [.ow 0 j (mm+2) 1] (s4.set 2 ⟨0,(qs.set j qd).map wc⟩)=some (.ow 0 j (aO (val (xs.drop j))).length 1,s4.set 2 ⟨0,(qs.set j qd).map wc⟩):=by
       rw[aRG (zs:=xs) (by omega) (by rw[nE];omega) (by rw[gX];exact w0) (by omega),E]
      have e':=aK2 (m:=m+1) (xs:=aO (val (xs.drop j))) (ys:=aO (qd*V)) (by omega) (oX H) (cU _) (cU _) (by rw[cO,cO];exact H)
      rw[cO,cO,show val (xs.drop j)-qd*V=val (xs.drop j)%V by have:=bL2 (val (xs.drop j)) V;rw[u,bJR]at this;omega]at e'
      have f':fF (VX (m+3)) 149 [.ow 0 j (aO (val (xs.drop j))).length 1,tW (aO (qd*V))] (s4.set 2 ⟨0,(qs.set j qd).map wc⟩)=some (tW (aO (val (xs.drop j)%V)),s4.set 2 ⟨0,(qs.set j qd).map wc⟩):=
       aPY (zs:=xs) (by rw[N,e'];exact .fr) (by rw[nE];omega) (by rw[gX];exact w0) (by omega) (by omega)
      obtain⟨D,hD⟩:∃D,aO (val (xs.drop j)%V)=D:=⟨_,rfl⟩
      have w':bD D:=by rw[←hD];exact cU _
      have a6:D.length<=mm+2:=by
       rw[←hD]
       exact lK (bKV (bK6 _ d') (bJK J (bK2 (by decide) (by omega))))
      rw[hD]at f'
      simp (disch:=first|rfl|omega)only[S1,aN,aC,aE,aM,aJ,zB,zH,d,f,g,i,bKs,hsz,t',e4,w2,O,vJ 149 rfl,f']
      refine .up (fun p e s5=>3<=s5.nxt/\∃us:List Nat,s5.ob 0=⟨0,us.map wc⟩/\s5.ob 1=⟨0,ys0.map wc⟩/\s5.ob 2=⟨0,(qs.set j qd).map wc⟩/\e 10=some (.int .i64 (s:Nat))/\e 11=some (.ow 0 0 (n+1) 1)/\e 12=some (.ow 1 0 (mm+1) 1)/\e 13=some (.ow 2 0 n 1)/\e 14=some (.int .i64 (iz (j+1)))/\e 15=some (.ow 0 j (mm+2) 1)/\e 18=some (tW D)/\e 19=some (.int .i64 (p:Nat))/\us.length=n+1/\bD us/\(∀t,t<p->us.getD (j+t) 0=D.getD t 0)/\(∀t,(t<j\/j+p<=t)->us.getD t 0=xs.getD t 0)) (mm+2) ?_ (dB (by omega)) ?_
      ·refine⟨by rw[nE];exact u',xs,by rw[gX];exact w0,by rw[gX];exact w1,by rw[gX];rfl, ?_⟩
       simp (disch:=first|rfl|omega)only[S1,zB,c,d,f,g,i]
       exact⟨zl,zL,fun t G=>absurd G (bKM _),fun t _=>trivial⟩
      ·rintro p e s5 hp ⟨P,us,u0,u1,u2,c,d,f,g,i,v,w,A,ul,uL,uD,uX⟩
       simp (disch:=first|rfl|omega)only[S1,aN,zB,v,A]
       refine cM (fun h=> ?_) (fun h=> ?_)
       ·have h3:=ae h
        simp (disch:=first|rfl|omega)only[S1,aN,aC,aE,aM,aJ,zB,v,w,A,u0]
        refine cM (fun h=> ?_) (fun h=> ?_)
        ·have h4:=ae h
         have a7:(us.set (j+p) 0).length=n+1:=by rw[bKT,ul]
         have o:=aMk (y:=D.getD p 0) ul (by omega) uD uX rfl
         simp (disch:=first|rfl|omega)only[S1,aC,aE,aM,aJ,zB,c,d,f,g,i,v,w,A,u0,u1,u2,List.set_set]
         exact⟨h3,P,_,rfl,o.1,jQ uL (w'.getD p),o.2.1,o.2.2⟩
        ·have h4:=af h
         have o:=aMk (y:=0) ul (by omega) uD uX (qQ (by omega))
         simp (disch:=first|rfl|omega)only[S1,aC,aE,aM,aJ,zB,c,d,f,g,i,v,w,A,u0,u1,u2]
         exact⟨h3,P,_,rfl,o.1,jQ uL (by decide),o.2.1,o.2.2⟩
       ·have h3:=af h
        obtain rfl:p=mm+2:=by omega
        simp (disch:=first|rfl|omega)only[S1,aC,aE,aM,aJ,zB,zC,reduceCtorEq,c,d,f,g,i,u0,u1,u2,bKs]
        have g':val (xs.drop j)<4294967296^(mm+2):=by omega
        have hd:val (us.drop j)=val (xs.drop j)%V:=by
         rw[←cO (val (xs.drop j)%V),hD]
         apply aIn
         intro t
         rw[vH]
         by_cases G:t<mm+2
         ·exact uD t G
         ·rw[uX (j+t) (by omega),←vH,aHI g' (by omega)]
          exact(qQ (by omega)).symm
        have G:us.take j=xs.take j:=by
         apply aFA (by rw[bJO,bJO,ul,zl])
         intro t x'
         rw[bJO]at x'
         rw[getD_take (by omega),getD_take (by omega)]
         exact uX t (by omega)
        have hq:qd<4294967296:=by rw[←u];exact bLy hU
        have h':=aMK hI (by omega) (by omega) (by omega) G hd d'
        rw[u]at h'
        exact⟨j,by omega,by omega,P,us,_,rfl,rfl,rfl,ul,uL,by rw[bKT,ql],jQ qL hq,h'⟩
     ·have h2:=af h
      obtain rfl:k=0:=by omega
      obtain⟨d1,d2⟩:=aRP hI
      have hp:0<2^s:=bKt (by decide)
      rw[←c',←b',Nat.mul_div_mul_right _ _ hp]at d1
      rw[←c',←b',Nat.mul_mod_mul_right]at d2
      have O:=vQ (zs:=qs) (k:=2) (len:=n) (s:=B) (orc:=VX (m+3)) (by omega) z2 ql (by omega)
      have y':=vQ (zs:=xs) (k:=0) (len:=n+1) (s:=B) (orc:=VX (m+3)) (by omega) z0 zl (by omega)
      have Y:=bHa (m:=m+1) (xs:=cJ xs) (sh:=s) (bK9 (qN _) (by omega)) (aMb zL) hs
      have z':fF (VX (m+3)) 150 [.ow 0 0 (cJ xs).length 1,.int .i64 (s:Nat)] B=some (tW (aO (a%b)),B):=by
       refine bA9 (zs:=xs) ?_ (by omega) z0 (by have:=qN xs;omega) (by have:=qN xs;omega) (cQ.int _ _) (by simp only[cV];decide)
       rw[bJV,←nA,Y,aN7,d2,bL0 _ hp]
       exact .fr
      simp (disch:=first|rfl|omega)only[S1,zB,reduceCtorEq,zG,c,d,g,O,y',vJ 150 rfl,z']
      rw[aIb (by omega) z2 (by omega) (jF _) (by rw[fK];decide),iI qL,d1]
end
section
variable {m:Nat}
def tI(z:Int):TV:= .ag (ci (decide (z<0)) (aO z.natAbs))
def aX(k n:Nat):Prop:=n<4294967296^k
theorem aX.len{k n:Nat}(h:aX k n):(aO n).length<=k:=lK h
theorem aX.mono{j k n:Nat}(h:aX j n)(i:j<=k):aX k n:=bJK h (bK2 (by decide) i)
theorem aX.le{k n n':Nat}(h:aX k n)(hn:n'<=n):aX k n':=bK9 hn h
theorem aX.mul{j k n n':Nat}(h:aX j n)(h':aX k n'):aX (j+k) (n*n'):=by unfold aX;rw[bL4];exact bLA h h'
theorem aX.add{k n n':Nat}(h:aX k n)(h':aX k n'):aX (k+1) (n+n'):=by unfold aX at*;rw[bJX];omega
def sg(n:Bool)(k:Nat):Int:=if n then-(k:Int)else k
theorem aS3(n:Bool)(k:Nat):(sg n k).natAbs=k:=by cases n<;>simp [sg]
theorem xM{k:Nat}:0<(aO k).length↔k≠0:=by
 rw[Nat.pos_iff_ne_zero,ne_eq,bMK,tA]
theorem bGy(n:Bool)(k:Nat):decide (sg n k<0)=(n&&decide (0<(aO k).length)):=by
 cases n
 ·simp [sg]
 ·simp only[sg,if_true,Bool.true_and]
  exact decide_eq_decide.2 (by rw[xM];omega)
theorem aGI(n:Bool)(k:Nat):tI (sg n k)= .ag (ci (n&&decide (0<(aO k).length)) (aO k)):=by rw[tI,bGy,aS3]
theorem pM(z:Int):cQ (tI z):=cQ.ag (aGo _ _)
theorem aAW(z:Int):cV (tI z)=6:=by simp only[tI,ci,cV,bT,fK]
theorem aCi{s:VS}{z:Int}:dJ s [tI z]=some (tI z,false):=tN (pM z) (by rw[aAW];decide)
theorem sD(z:Int):Can [tI z]:=Can.cons (pM z) Can.nil
theorem mG(z w:Int):Can [tI z,tI w]:=Can.cons (pM z) (Can.cons (pM w) Can.nil)
theorem sJ(z:Int):bT [tI z]<=cL:=by simp only[bT,aAW];decide
theorem mJ(z w:Int):bT [tI z,tI w]<=cL:=by simp only[bT,aAW];decide
theorem kL{z:Int}:(tI z).cells=[.b (decide (z<0)),tW (aO z.natAbs)]:=rfl
theorem qX{z:Int}:TV.ag [.b (decide (z<0)),tW (aO z.natAbs)]=tI z:=rfl
theorem TI:type_of%(ab @kL (ab @qX (@aCi))):=(ab @kL (ab @qX (@aCi)))
theorem tM{n:Bool}{k:Nat}(h:(aO k).length<10000000):CC (VX (m+2)) 63 [.b n,tW (aO k)] (tI (sg n k)):=by
 refine .of (Can.cons (cQ.b _) (vR _)) (by simp only[bT,cV,fK];decide) ?_
 rw[bCa h,kJ,aGI]
theorem aG5(z:Int):sg (decide (z<0)) z.natAbs=z:=by
 by_cases h:z<0
 ·simp only[sg,h,decide_true,if_true];omega
 ·simp only[sg,h,decide_false];simp;omega
theorem aSW(z:Int):sg (!decide (z<0)) z.natAbs= -z:=by
 by_cases h:z<0
 ·simp only[sg,h,decide_true,Bool.not_true];simp;omega
 ·simp only[sg,h,decide_false,Bool.not_false,if_true];omega
theorem wU:fA PG 4= .boo:=by kernel_rfl
theorem aK6{x y:Bool}:bU .boo .eql (.b x) (.b y)=some (.b (x==y)):=rfl
theorem aC2{x y:Bool}:bU .boo .neq (.b x) (.b y)=some (.b (!(x==y))):=rfl
theorem aXt{et:fP}{k:bR6}:bU et .geq (.int k (-1)) (.int k ((0:Nat):Int))=some (.b false):=by simp [bU,dX]
theorem bE8:bO PG 67 f67 [2] []=true:=by kernel_rfl
theorem aSi{z:Int}(h:aX 9000000 z.natAbs):VX (m+3) 67 [tI z]=some (tI z,false):=by
 have hs:=tM (m:=m) (n:=decide (z<0)) (k:=z.natAbs) (bK9 h.len (by decide))
 rw[aG5]at hs
 refine bX rfl func67 bE8 rfl ?_
 simp only[f67,N1,bC,bF,bH,bG,bE,zB,zG]
 simp (disch:=first|rfl|omega)only[S1,zB,reduceCtorEq,zD,zG,zH,TI,aQ,vJ 63 rfl,(hs _).2]
theorem yM{z:Int}(h:aX 9000000 z.natAbs):CC (VX (m+3)) 67 [tI z] (tI z):= .of (sD z) (sJ z) (aSi h)
theorem bHH:bO PG 105 f105 [2] []=true:=by kernel_rfl
theorem aTS{z:Int}(h:aX 9000000 z.natAbs):VX (m+3) 105 [tI z]=some (tI (-z),false):=by
 have hs:=tM (m:=m) (n:= !decide (z<0)) (k:=z.natAbs) (bK9 h.len (by decide))
 rw[aSW]at hs
 refine bX rfl func105 bHH rfl ?_
 simp only[f105,N1,bC,bF,bH,bG,bE,zB,zG]
 simp (disch:=first|rfl|omega)only[S1,zB,reduceCtorEq,zD,zG,zH,TI,aQ,vJ 63 rfl,(hs _).2]
theorem aGR{z:Int}(h:aX 9000000 z.natAbs):CC (VX (m+3)) 105 [tI z] (tI (-z)):= .of (sD z) (sJ z) (aTS h)
theorem bHt:bO PG 103 f103 [4,27] []=true:=by kernel_rfl
theorem bIL{z w:Int}(h:aX 8000000 z.natAbs)(h':aX 8000000 w.natAbs):VX (m+4) 103 [tI z,tI w]=some (tI (z+w),false):=by
 have n1:=yM (m:=m) (h.mono (k:=9000000) (by decide))
 have l:=yM (m:=m) (h'.mono (k:=9000000) (by decide))
 refine bX rfl func103 bHt rfl ?_
 simp only[f103,N1,bC,bF,bH,bG,bE,zB,zG]
 simp (disch:=first|rfl|omega)only[S1,zB,reduceCtorEq,zD,zG,zH,TI,aQ,(n1 _).1,(l _).1,wU,aK6]
 have p:=h.len
 have l2:=h'.len
 refine cM (fun e=> ?_) (fun e=> ?_)
 ·have f:=bG4 (m:=m+1) (xs:=aO z.natAbs) (ys:=aO w.natAbs) (by omega) (by omega) (cU _) (cU _)
  rw[cO,cO]at f
  have hs:=tM (m:=m+1) (n:=decide (z<0)) (k:=z.natAbs+w.natAbs) (bK9 ((h.add h').len) (by decide))
  have c:sg (decide (z<0)) (z.natAbs+w.natAbs)=z+w:=by
   simp only[beq_iff_eq,decide_eq_decide]at e
   by_cases c:z<0
   ·simp only[sg,c,decide_true,if_true];omega
   ·simp only[sg,c,decide_false];simp;omega
  rw[c]at hs
  simp (disch:=first|rfl|omega)only[S1,zB,reduceCtorEq,zD,zG,zH,TI,aQ,(f _).1,(hs _).1]
 ·have d:decide (z<0)≠decide (w<0):=by simpa using e
  have hc:=aIp (m:=m+2) (a:=z.natAbs) (b:=w.natAbs) (by omega)
  by_cases g:z.natAbs<w.natAbs
  ·rw[if_pos g]at hc
   have f:=aQM (m:=m+1) (xs:=aO w.natAbs) (ys:=aO z.natAbs) (by omega) (oX (by omega)) (cU _) (cU _) (by rw[cO,cO];omega)
   rw[cO,cO]at f
   have hs:=tM (m:=m+1) (n:=decide (w<0)) (k:=w.natAbs-z.natAbs) (bK9 ((h'.le (Nat.sub_le _ _)).len) (by decide))
   have c:sg (decide (w<0)) (w.natAbs-z.natAbs)=z+w:=by
    by_cases c:w<0
    ·simp only[sg,c,decide_true,if_true];simp only[c,decide_true,ne_eq,ap]at d;omega
    ·simp only[sg,c,decide_false];simp only[c,decide_false,ne_eq,decide_eq_false_iff_not,Decidable.not_not]at d;simp;omega
   rw[c]at hs
   simp (disch:=first|rfl|omega)only[S1,aC,aE,aM,aJ,zB,reduceCtorEq,zD,zG,zH,TI,aQ,vJ 68 rfl,(hc _).2,(f _).1,(hs _).1,aXt]
  ·rw[if_neg g]at hc
   obtain⟨r,o⟩:∃r:Nat,(if w.natAbs<z.natAbs then(1:Int)else 0)=(r:Int):=by
    split
    ·exact⟨1,rfl⟩
    ·exact⟨0,rfl⟩
   rw[o]at hc
   have f:=aQM (m:=m+1) (xs:=aO z.natAbs) (ys:=aO w.natAbs) (by omega) (oX (by omega)) (cU _) (cU _) (by rw[cO,cO];omega)
   rw[cO,cO]at f
   have hs:=tM (m:=m+1) (n:=decide (z<0)) (k:=z.natAbs-w.natAbs) (bK9 ((h.le (Nat.sub_le _ _)).len) (by decide))
   have c:sg (decide (z<0)) (z.natAbs-w.natAbs)=z+w:=by
    by_cases c:z<0
    ·simp only[sg,c,decide_true,if_true];simp only[c,decide_true,ne_eq,Bool.true_eq,ap]at d;omega
    ·simp only[sg,c,decide_false];simp only[c,decide_false,ne_eq,Bool.false_eq,decide_eq_false_iff_not,Decidable.not_not]at d;simp;omega
   rw[c]at hs
   simp (disch:=first|rfl|omega)only[S1,aC,aE,aM,aJ,zB,reduceCtorEq,zD,zG,zH,TI,aQ,vJ 68 rfl,(hc _).2,(f _).1,(hs _).1,bJJ]
theorem aCw{z w:Int}(h:aX 8000000 z.natAbs)(h':aX 8000000 w.natAbs):CC (VX (m+4)) 103 [tI z,tI w] (tI (z+w)):= .of (mG z w) (mJ z w) (bIL h h')
theorem bHz:bO PG 282 f282 [4] []=true:=by kernel_rfl
theorem bIT{z w:Int}(h:aX 8000000 z.natAbs)(h':aX 8000000 w.natAbs):VX (m+5) 282 [tI z,tI w]=some (tI (z-w),false):=by
 have hn:=aGR (m:=m+1) (h'.mono (k:=9000000) (by decide))
 have i:=aCw (m:=m) (w:= -w) h (by rw[bLJ];exact h')
 rw[←Int.sub_eq_add_neg]at i
 refine bX rfl func282 bHz rfl ?_
 simp only[f282,N1,bC,bF,bH,bG,bE,zB,zG]
 simp (disch:=first|rfl|omega)only[S1,zB,reduceCtorEq,zD,zG,zH,TI,hn _,i _]
theorem aKK{z w:Int}(h:aX 8000000 z.natAbs)(h':aX 8000000 w.natAbs):CC (VX (m+5)) 282 [tI z,tI w] (tI (z-w)):= .of (mG z w) (mJ z w) (bIT h h')
theorem bEX:bO PG 23 f23 [2] []=true:=by kernel_rfl
theorem bHW{z:Int}(h:aX 9000000 z.natAbs):VX (m+4) 23 [tI z]=some (.int .i64 z.sign,false):=by
 have hn:=yM (m:=m) h
 refine bX rfl func23 bEX rfl ?_
 simp only[f23,N1,bC,bF,bH,bG,bE,zB,zG]
 simp (disch:=first|rfl|omega)only[S1,aN,aC,aE,aM,aJ,zB,reduceCtorEq,zD,zG,zH,TI,aQ,vJ 67 rfl,hn _]
 refine cM (fun e=> ?_) (fun e=> ?_)
 ·have e0:(aO z.natAbs).length=0:=ae e
  have c:z=0:=by have:=tA.1 (bKB e0);omega
  simp (disch:=first|rfl|omega)only[S1,aC,aE,aM,aJ,zB,reduceCtorEq]
  rw[c];rfl
 ·have e0:¬(aO z.natAbs).length=0:=af e
  have c:z≠0:=fun c=>e0 (by rw[c,Int.natAbs_zero,gH];rfl)
  simp (disch:=first|rfl|omega)only[S1,zB,reduceCtorEq,zD,zG,zH,aQ]
  refine cM (fun e=> ?_) (fun e=> ?_)
  ·have g:z<0:=ae e
   simp (disch:=first|rfl|omega)only[S1,aC,aE,aM,aJ,zB,reduceCtorEq]
   rw[bL5 g]
  ·have g:¬z<0:=af e
   simp (disch:=first|rfl|omega)only[S1,aC,aE,aM,aJ,zB,reduceCtorEq]
   rw[bL3 (by omega)];rfl
theorem aDT{z:Int}(h:aX 9000000 z.natAbs):CC (VX (m+4)) 23 [tI z] (.int .i64 z.sign):= .of (sD z) (sJ z) (bHW h)
theorem bHf:bO PG 230 f230 [4] []=true:=by kernel_rfl
theorem bIv{z w:Int}(h:aX 8000000 z.natAbs)(h':aX 8000000 w.natAbs):VX (m+6) 230 [tI z,tI w]=some (.int .i64 (z-w).sign,false):=by
 have h1:=aKK (m:=m) h h'
 have h2:=aDT (m:=m+1) (z:=z-w) (aX.mono (j:=8000001) (aX.le (aX.add h h') (by omega)) (by decide))
 refine bX rfl func230 bHf rfl ?_
 simp only[f230,N1,bC,bF,bH,bG,bE,zB,zG]
 simp (disch:=first|rfl|omega)only[S1,aC,aE,aM,aJ,zB,reduceCtorEq,zD,zG,zH,TI,vJ 282 rfl,vJ 23 rfl,h1 _,h2 _]
theorem bI0{z w:Int}(h:aX 8000000 z.natAbs)(h':aX 8000000 w.natAbs):CC (VX (m+6)) 230 [tI z,tI w] (.int .i64 (z-w).sign):= .of (mG z w) (mJ z w) (bIv h h')
theorem bGC:bO PG 104 f104 [4] []=true:=by kernel_rfl
theorem aUn{z w:Int}(h:aX 3000000 z.natAbs)(h':aX 3000000 w.natAbs):VX (m+4) 104 [tI z,tI w]=some (tI (z*w),false):=by
 have n1:=yM (m:=m) (h.mono (k:=9000000) (by decide))
 have B:=yM (m:=m) (h'.mono (k:=9000000) (by decide))
 have C:=h.len
 have l2:=h'.len
 have A:=bDa (m:=m+1) (xs:=aO z.natAbs) (ys:=aO w.natAbs) (by omega) (by omega) (cU _) (cU _)
 rw[cO,cO]at A
 have hs:=tM (m:=m+1) (n:= !(decide (z<0)==decide (w<0))) (k:=z.natAbs*w.natAbs) (bK9 ((h.mul h').len) (by decide))
 have c:sg (!(decide (z<0)==decide (w<0))) (z.natAbs*w.natAbs)=z*w:=by
  have ea:(z.natAbs*w.natAbs:Nat)=(z*w).natAbs:=(bKJ z w).symm
  rw[ea]
  by_cases c:z<0<;>by_cases d:w<0
  ·have:=Int.mul_pos_of_neg_of_neg c d
   simp only[sg,c,d,decide_true];simp;omega
  ·have:=Int.mul_nonpos_of_nonpos_of_nonneg (bNg c) (bLV.1 d)
   simp only[sg,c,d,decide_true,decide_false];simp;omega
  ·have:=Int.mul_nonpos_of_nonneg_of_nonpos (bLV.1 c) (bNg d)
   simp only[sg,c,d,decide_true,decide_false];simp;omega
  ·have:=Int.mul_nonneg (bLV.1 c) (bLV.1 d)
   simp only[sg,c,d,decide_false];simp;omega
 rw[c]at hs
 refine bX rfl func104 bGC rfl ?_
 simp only[f104,N1,bC,bF,bH,bG,bE,zB,zG]
 simp (disch:=first|rfl|omega)only[S1,zB,reduceCtorEq,zD,zG,zH,TI,aQ,(n1 _).1,(B _).1,wU,aC2,(A _).1,(hs _).1]
theorem rC{z w:Int}(h:aX 3000000 z.natAbs)(h':aX 3000000 w.natAbs):CC (VX (m+4)) 104 [tI z,tI w] (tI (z*w)):= .of (mG z w) (mJ z w) (aUn h h')
theorem aJJ{xs:List Nat}(l:xs.length<10000000):CC (VX (m+1)) 65 [tW xs] (tW (cJ xs)):= .of (vR _) (by simp only[bT,fK];decide) (bHK l)
theorem aOH{a b:Nat}(D:0<b)(i:(aO a).length<=2000000)(o:(aO b).length<=2000000):CC (VX (m+4)) 66 [tW (aO a),tW (aO b)] (.tp [tW (aO (a/b)),tW (aO (a%b))]):= .of (vT _ _) (by simp only[bT,fK];decide) (bAA D i o)
theorem aZl{x r:Nat}(h:2*r<x):blen r+1<=blen x:=by
 have h1:=aLu x
 have hx:blen x≠0:=fun e=>by rw[e]at h1;omega
 obtain⟨k,E⟩:∃k,blen x=k+1:=⟨blen x-1,by omega⟩
 rw[E,bJX]at h1
 have:=aBT (k:=k) (x:=r) (by omega)
 omega
theorem aFt{k n:Nat}(h:aX k n):blen n<=32*k:=aBT (by rw[Nat.pow_mul];exact h)
def oM(x y:Nat):Nat:=blen x+blen y+(if x<y then 1 else 0)
theorem aNK{x y:Nat}(f:0<y):oM y (x%y)<oM x y:=by
 unfold oM
 rw[if_neg (bMo.2 (bKb (bK6 _ f)))]
 by_cases h:x<y
 ·rw[if_pos h,bKg h];omega
 ·rw[if_neg h]
  have h1:2*(x%y)<x:=by
   have h2:=bK6 x f
   have I:=bL2 x y
   have F:1<=x/y:=bML (by omega) f
   have J:y<=y*(x/y):=bM9 y F
   omega
  have:=aZl h1
  omega
theorem bHw:bO PG 22 f22 [4,17] []=true:=by kernel_rfl
theorem bI2{z w:Int}(h:aX 150000 z.natAbs)(h':aX 150000 w.natAbs):VX (m+5) 22 [tI z,tI w]=some (tI (Int.gcd z w:Nat),false):=by
 have C:=h.len
 have l2:=h'.len
 have t1:=aJJ (m:=m+3) (xs:=aO z.natAbs) (by omega)
 have t2:=aJJ (m:=m+3) (xs:=aO w.natAbs) (by omega)
 rw[kJ]at t1 t2
 refine bX rfl func22 bHw rfl ?_
 simp only[f22,N1,bC,bF,bH,bG,bE,zB,zG]
 simp (disch:=first|rfl|omega)only[S1,zB,reduceCtorEq,zD,zG,zH,TI,aQ,(t1 _).1,(t2 _).1]
 refine .loop (fun n e s=>s.nxt=3/\s.ob 2=⟨0,[.b false,.nil]⟩/\e 4=some (.po 2 0)/\∃x y,e 5=some (tW (aO x))/\e 6=some (tW (aO y))/\aX 150000 x/\aX 150000 y/\Nat.gcd x y=Int.gcd z w/\n=oM x y) (oM z.natAbs w.natAbs) ?_ (dB ?_) ?_
 ·refine⟨rfl,rfl, ?_⟩
  simp (disch:=first|rfl|omega)only[S1,zB]
  exact⟨_,_,rfl,rfl,h,h',rfl,rfl⟩
 ·have K:=aFt h
  have L:=aFt h'
  unfold oM
  split<;>omega
 ·rintro n e s ⟨sn,so,p,x,y,q,t,fx,fy,u,rfl⟩
  have lx:=fx.len
  have ly:=fy.len
  simp (disch:=first|rfl|omega)only[S1,aN,aC,aE,aM,aJ,zB,t]
  refine cM (fun hc=> ?_) (fun hc=> ?_)
  ·have f:0<y:=by have h0:0<(aO y).length:=ae hc;rw[xM]at h0;omega
   have G:=aOH (m:=m) (a:=x) (b:=y) f (by omega) (by omega)
   simp (disch:=first|rfl|omega)only[S1,zB,p,q,t,sn,so,vJ 66 rfl,(G _).2]
   exact⟨oM y (x%y),aNK f,_,_,rfl,rfl,fy,fy.le (bKb (bK6 _ f)),(aID x y).trans u,rfl⟩
  ·have h0:¬0<(aO y).length:=af hc
   rw[xM]at h0
   obtain rfl:y=0:=by omega
   rw[Nat.gcd_zero_right]at u
   have hs:=tM (m:=m+2) (n:=false) (k:=x) (by omega)
   rw[show sg false x=((Int.gcd z w:Nat):Int) by rw[←u];rfl]at hs
   simp (disch:=first|rfl|omega)only[S1,aC,aE,aM,aJ,zB,reduceCtorEq,zD,zG,zH,p,q,sn,so,TI,vJ 63 rfl,(hs _).2]
theorem aEh{z w:Int}(h:aX 150000 z.natAbs)(h':aX 150000 w.natAbs):CC (VX (m+5)) 22 [tI z,tI w] (tI (Int.gcd z w:Nat)):= .of (mG z w) (mJ z w) (bI2 h h')
theorem sB{et:fP}{k:bR6}{z:Int}:bU et .lss (.int k z) (.int k ((0:Nat):Int))=some (.b (decide (z<0))):=by simp [bU,dX]
theorem aAg(z:Int):IntKind.u64.wrap z=z%18446744073709551616:=by
 have v:(2^IntKind.u64.bits:Int)=18446744073709551616:=rfl
 unfold IntKind.wrap
 simp only[v,IntKind.signed,Bool.false_and,bJQ,if_false]
theorem aOR{n:Nat}(h:n<18446744073709551616)(h0:0<n):vD .neg (.int .u64 ((18446744073709551616-n:Nat):Int))=some (.int .u64 (n:Nat)):=by
 simp only[vD]
 rw[aAg]
 congr 2
 omega
theorem nui:nP PG 2 103=some .u64:=by kernel_rfl
theorem aX9:bO PG 20 f20 [2] []=true:=by kernel_rfl
theorem aXW{z:Int}(h1: -9223372036854775808<=z)(h2:z<9223372036854775808):VX (m+4) 20 [.int .i64 z]=some (tI z,false):=by
 have d:=aG2 (m:=m+1) (n:=z.natAbs) (by omega)
 have l:(aO z.natAbs).length<10000000:=bK9 (lK (k:=2) (by show z.natAbs<18446744073709551616;omega)) (by decide)
 refine bX rfl func20 aX9 rfl ?_
 simp only[f20,N1,bC,bF,bH,bG,bE,zB,zG]
 simp (disch:=first|rfl|omega)only[S1,aC,aE,aM,aJ,zB,sB]
 refine cM (fun hc=> ?_) (fun hc=> ?_)
 ·have h0:z<0:=ae hc
  have g:IntKind.u64.wrap z=((18446744073709551616-z.natAbs:Nat):Int):=by rw[aAg];omega
  have H:=aOR (n:=z.natAbs) (by omega) (by omega)
  have hs:=tM (m:=m+1) (n:=true) (k:=z.natAbs) l
  rw[show sg true z.natAbs=z by simp only[sg,if_true];omega]at hs
  simp (disch:=first|rfl|omega)only[S1,aC,aE,aM,aJ,zB,reduceCtorEq,zD,zG,zH,TI,g,H,vJ 64 rfl,(d _).2,vJ 63 rfl,(hs _).2]
 ·have h0:¬z<0:=af hc
  have g:IntKind.u64.wrap z=((z.natAbs:Nat):Int):=by rw[aAg];omega
  have hs:=tM (m:=m+1) (n:=false) (k:=z.natAbs) l
  rw[show sg false z.natAbs=z by simp only[sg];simp;omega]at hs
  simp (disch:=first|rfl|omega)only[S1,aC,aE,aM,aJ,zB,reduceCtorEq,zD,zG,zH,TI,g,vJ 64 rfl,(d _).2,vJ 63 rfl,(hs _).2]
theorem xQ{z:Int}(h1: -9223372036854775808<=z)(h2:z<9223372036854775808):CC (VX (m+4)) 20 [.int .i64 z] (tI z):= .of (Can.cons (cQ.int _ _) Can.nil) (by simp only[bT,cV];decide) (aXW h1 h2)
end
end Ev
theorem aO6{a g:Int}(f:0<=g):a.fdiv g=a/g:=Int.fdiv_eq_ediv_of_nonneg a f
theorem aNw{a g:Int}(h:g∣a):a.fdiv (-g)= -(a/g):=by
 obtain⟨k,rfl⟩:=h
 by_cases h0:g=0
 ·subst h0;simp
 ·rw[bMp _ h0,show g*k=(-g)*(-k) by rw[Int.neg_mul_neg],Int.mul_fdiv_cancel_left _ (by omega)]
theorem aLX{a g:Int}(h:g∣a): -a/g= -(a/g):=by
 obtain⟨k,rfl⟩:=h
 by_cases h0:g=0
 ·subst h0;simp
 ·rw[bMp _ h0,show-(g*k)=g*(-k) by rw[Int.mul_neg],bMp _ h0]
def oL(a b:Int):Int:=if b<0 then-(Int.gcd a b:Int)else(Int.gcd a b:Int)
theorem bDg{a b:Int}(i:b≠0):oL a b≠0:=by
 have:Int.gcd a b≠0:=fun h=>i (Int.gcd_eq_zero_iff.1 h).2
 unfold oL
 split<;>omega
theorem bCO{a b:Int}(i:b≠0):a.fdiv (oL a b)=(Rat.divInt a b).num:=by
 rw[Rat.num_divInt,Int.gcd_comm b a]
 unfold oL
 have c:(Int.gcd a b:Int)∣a:=Int.gcd_dvd_left _ _
 split
 ·next h=>rw[bL5 h,aNw c,show-1*a= -a by omega,aLX c]
 ·next h=>rw[bL3 (by omega),Int.one_mul,aO6 (by omega)]
theorem bFK{a b:Int}(i:b≠0):b.fdiv (oL a b)=((Rat.divInt a b).den:Int):=by
 rw[Rat.den_divInt,Int.gcd_comm b a,if_neg i]
 unfold oL
 have c:(Int.gcd a b:Int)∣b:=Int.gcd_dvd_right _ _
 have hn:Int.gcd a b∣b.natAbs:=bMM.1 c
 split
 ·next h=>
  rw[aNw c,Int.natCast_ediv]
  rw[show((b.natAbs:Nat):Int)= -b by omega,aLX c]
 ·next h=>rw[aO6 (by omega),Int.natCast_ediv,show((b.natAbs:Nat):Int)=b by omega]
theorem bEh(a b:Rat):Rat.divInt (a.num*b.den+b.num*a.den) ((a.den*b.den:Nat):Int)=a+b:=by rw[Rat.add_def',Rat.divInt_ofNat]
theorem bEb(a b:Rat):Rat.divInt (a.num*b.num) ((a.den*b.den:Nat):Int)=a*b:=by rw[Rat.mul_def',Rat.divInt_ofNat]
theorem bF3(a b:Rat):Rat.divInt (a.num*b.den) ((a.den:Int)*b.num)=a/b:=by
 rw[Rat.div_def,Rat.inv_def]
 conv=>rhs;rw[←Rat.num_divInt_den a]
 rw[Rat.divInt_mul_divInt]
theorem aEV{q:Rat}:q.den=1↔q=(q.num:Rat):=⟨fun h=>Rat.ext rfl h,fun h=>by rw[h];rfl⟩
theorem aP7{a b:Rat}(E:a.den=1)(i:b.den=1):(a+b).num=a.num+b.num/\(a+b).den=1:=by
 rw[aEV.1 E,aEV.1 i,←Rat.intCast_add]
 exact⟨rfl,rfl⟩
theorem aPx{a b:Rat}(E:a.den=1)(i:b.den=1):(a*b).num=a.num*b.num/\(a*b).den=1:=by
 rw[aEV.1 E,aEV.1 i,←Rat.intCast_mul]
 exact⟨rfl,rfl⟩
theorem aUf{q:Rat}{n:Int}{d:Nat}(c:d≠0)(hc:n.natAbs.Coprime d)(h:n*q.den=q.num*d):q.num=n/\q.den=d:=by
 have:q=⟨n,d,c,hc⟩:=by
  rw[Rat.eq_iff_mul_eq_mul]
  exact h.symm
 rw[this]
 exact⟨rfl,rfl⟩
theorem aNv(a b:Rat)(g:Nat)(f:g=Nat.gcd a.den b.den)(n:Int)(hn:n=a.num*(b.den/g:Nat)+b.num*(a.den/g:Nat))(h:Nat)(hh:h=Nat.gcd n.natAbs g):
  (a+b).num=n/h/\(a+b).den=(a.den/g)*(b.den/h):=by
 have e:Nat.gcd n.natAbs g=Nat.gcd n.natAbs ((a.den/g)*b.den):=by
  rw[hn]
  exact Rat.add.aux a b f rfl rfl
 have j:0<g:=by rw[f];exact Nat.gcd_pos_of_pos_left _ a.den_pos
 have ga:g∣a.den:=f ▸ bMq _ _
 have gb:g∣b.den:=f ▸ bMN _ _
 have h0:0<h:=by rw[hh];exact bMr _ j
 have F:h∣g:=hh ▸ bMN _ _
 have o:h∣b.den:=Nat.dvd_trans F gb
 have s:(h:Int)∣n:=bMM.2 (hh ▸ bMq _ _)
 have H:(a.den/g)*(b.den/h)=(a.den/g)*b.den/h:=(Nat.mul_div_assoc _ o).symm
 have t:(a.den/g)*(b.den/h)≠0:=Nat.ne_of_gt (bKG (bML (bMa a.den_pos ga) j) (bML (bMa b.den_pos o) h0))
 refine aUf t ?_ ?_
 ·rw[H]
  have:(n/(h:Int)).natAbs=n.natAbs/h:=by
   rw[Int.natAbs_ediv_of_dvd s];rfl
  rw[this]
  have A:h=Nat.gcd n.natAbs ((a.den/g)*b.den):=hh.trans e
  conv=>arg 1;rw[A]
  conv=>arg 2;rw[A]
  exact Nat.coprime_div_gcd_div_gcd (by rw[←A];exact h0)
 ·obtain⟨x,hx⟩:=ga
  obtain⟨y,C⟩:=gb
  obtain⟨u,B⟩:=o
  obtain⟨v,D⟩:=s
  have ex:a.den/g=x:=by rw[hx,bMO _ j]
  have ey:b.den/g=y:=by rw[C,bMO _ j]
  have eu:b.den/h=u:=by rw[B,bMO _ h0]
  have ev:n/(h:Int)=v:=by rw[D,bMp _ (by omega)]
  rw[ex,eu,ev]
  have key:(a+b).num*(a.den*b.den:Nat)=(a.num*b.den+b.num*a.den)*(a+b).den:=by
   have h1:a+b=mkRat (a.num*b.den+b.num*a.den) (a.den*b.den):=Rat.add_def' a b
   have h2:=(Rat.mkRat_eq_iff (a+b).den_nz (Nat.mul_ne_zero a.den_nz b.den_nz)).1 ((Rat.mkRat_self (a+b)).trans h1)
   exact h2
  rw[ex,ey]at hn
  have p:(g:Int)≠0:=by omega
  have r:(h:Int)≠0:=by omega
  have k2:(v*(a+b).den-(a+b).num*(x*u:Nat))*((g:Int)*g*h)=0:=by
   have I:(a.den:Int)=g*x:=by rw[hx];push_cast;rfl
   have A:(b.den:Int)=g*y:=by rw[C];push_cast;rfl
   have K:(b.den:Int)=h*u:=by rw[B];push_cast;rfl
   push_cast at key ⊢
   grind
  rcases bMP.1 k2 with k|k
  ·omega
  ·rcases bMP.1 k with k|k
   ·rcases bMP.1 k with k|k<;>exact absurd k p
   ·exact absurd k r
theorem aYC(a b:Rat)(g h:Nat)(f:g=Nat.gcd a.num.natAbs b.den)(hh:h=Nat.gcd b.num.natAbs a.den):
  (a*b).num=(a.num/g)*(b.num/h)/\(a*b).den=(a.den/h)*(b.den/g):=by
 have j:0<g:=by rw[f];exact bMr _ b.den_pos
 have h0:0<h:=by rw[hh];exact bMr _ a.den_pos
 have d1:(g:Int)∣a.num:=bMM.2 (f ▸ bMq _ _)
 have d2:(h:Int)∣b.num:=bMM.2 (hh ▸ bMq _ _)
 have d3:g∣b.den:=f ▸ bMN _ _
 have d4:h∣a.den:=hh ▸ bMN _ _
 have n1:(a.num/(g:Int)).natAbs=a.num.natAbs/g:=by rw[Int.natAbs_ediv_of_dvd d1];rfl
 have J:(b.num/(h:Int)).natAbs=b.num.natAbs/h:=by rw[Int.natAbs_ediv_of_dvd d2];rfl
 refine aUf (Nat.ne_of_gt (bKG (bML (bMa a.den_pos d4) h0) (bML (bMa b.den_pos d3) j))) ?_ ?_
 ·rw[bKJ,n1,J]
  refine bNi.mul_left (bNi.mul_right ?_ ?_) (bNi.mul_right ?_ ?_)
  ·exact(a.reduced.coprime_div_left (f ▸ bMq _ _)).coprime_div_right d4
  ·have:=Nat.coprime_div_gcd_div_gcd (m:=a.num.natAbs) (n:=b.den) (by rw[←f];exact j)
   rwa [←f]at this
  ·have:=Nat.coprime_div_gcd_div_gcd (m:=b.num.natAbs) (n:=a.den) (by rw[←hh];exact h0)
   rwa [←hh]at this
  ·exact(b.reduced.coprime_div_left (hh ▸ bMq _ _)).coprime_div_right d3
 ·obtain⟨x,hx⟩:=d1
  obtain⟨y,C⟩:=d2
  obtain⟨u,B⟩:=d3
  obtain⟨v,D⟩:=d4
  have ex:a.num/(g:Int)=x:=by rw[hx,bMp _ (by omega)]
  have ey:b.num/(h:Int)=y:=by rw[C,bMp _ (by omega)]
  have eu:b.den/g=u:=by rw[B,bMO _ j]
  have ev:a.den/h=v:=by rw[D,bMO _ h0]
  rw[ex,ey,eu,ev]
  have key:(a*b).num*(a.den*b.den:Nat)=(a.num*b.num)*(a*b).den:=by
   have h1:a*b=mkRat (a.num*b.num) (a.den*b.den):=Rat.mul_def' a b
   exact(Rat.mkRat_eq_iff (a*b).den_nz (Nat.mul_ne_zero a.den_nz b.den_nz)).1 ((Rat.mkRat_self (a*b)).trans h1)
  have p:(g:Int)≠0:=by omega
  have r:(h:Int)≠0:=by omega
  have k2:((x*y)*(a*b).den-(a*b).num*(v*u:Nat))*((g:Int)*h)=0:=by
   have I:(a.den:Int)=h*v:=by rw[D];push_cast;rfl
   have A:(b.den:Int)=g*u:=by rw[B];push_cast;rfl
   push_cast at key ⊢
   grind
  rcases bMP.1 k2 with k|k
  ·omega
  ·rcases bMP.1 k with k|k
   ·exact absurd k p
   ·exact absurd k r
def gB(q:Rat):Int:=q.num.sign
theorem aJT(a b:Rat):gB (a-b)=(a.num*b.den-b.num*a.den).sign:=by
 unfold gB
 have c:a.den*b.den≠0:=Nat.mul_ne_zero a.den_nz b.den_nz
 have key:(a-b).num*(a.den*b.den:Nat)=(a.num*b.den-b.num*a.den)*(a-b).den:=by
  have h1:a-b=mkRat (a.num*b.den-b.num*a.den) (a.den*b.den):=Rat.sub_def' a b
  exact(Rat.mkRat_eq_iff (a-b).den_nz c).1 ((Rat.mkRat_self (a-b)).trans h1)
 have h1:((a-b).num*(a.den*b.den:Nat)).sign=(a-b).num.sign:=by rw[bNj,bL3 (a:=((a.den*b.den:Nat):Int)) (by omega),Int.mul_one]
 have h2:((a.num*b.den-b.num*a.den)*(a-b).den).sign=(a.num*b.den-b.num*a.den).sign:=by
  rw[bNj,bL3 (a:=((a-b).den:Int)) (by have:=(a-b).den_pos;omega),Int.mul_one]
 rw[←h1,key,h2]
theorem aOA{z w:Int}(h:¬w∣z):(0<=z->0<z.tmod w)/\(z<0->z.tmod w<0):=by
 have t:z.tmod w≠0:=fun e=>h (Int.dvd_of_tmod_eq_zero e)
 refine⟨fun l=> ?_,fun l=> ?_⟩
 ·have:=Int.tmod_nonneg w l;omega
 ·have h1:=Int.tmod_nonneg w (a:= -z) (by omega)
  rw[Int.neg_tmod]at h1;omega
theorem bFp{z w:Int}(h:(z.tmod w).sign*w.sign<0):z.fdiv w=z.tdiv w-1/\z.fmod w=z.tmod w+w:=by
 have key:z.fdiv w=z.tdiv w-1:=by
  rw[Int.fdiv_eq_tdiv]
  split
  ·next c=>rw[Int.tmod_eq_zero_of_dvd c]at h;simp at h
  ·next c=>
   obtain⟨h1,h2⟩:=aOA c
   split
   ·next l=>
    rw[bL3 (h1 l)]at h
    split
    ·next hw=>have:0<=w.sign:=Int.sign_nonneg_iff.2 hw;omega
    ·rfl
   ·next l=>
    rw[bL5 (h2 (by omega))]at h
    rcases bMs w 0 with hw|rfl|hw
    ·rw[bL5 hw]at h;omega
    ·simp at h
    ·rw[if_pos (by omega),bL3 hw]
 refine⟨key, ?_⟩
 rw[Int.fmod_def,key,Int.mul_sub,Int.tmod_def]
 omega
theorem bHO{z w:Int}(h:¬(z.tmod w).sign*w.sign<0)(G:w≠0):z.fdiv w=z.tdiv w/\z.fmod w=z.tmod w:=by
 have key:z.fdiv w=z.tdiv w:=by
  rw[Int.fdiv_eq_tdiv]
  split
  ·omega
  ·next c=>
   obtain⟨h1,h2⟩:=aOA c
   split
   ·next l=>
    rw[bL3 (h1 l)]at h
    split
    ·omega
    ·next hw=>rw[bL5 (by omega)]at h;omega
   ·next l=>
    rw[bL5 (h2 (by omega))]at h
    rcases bMs w 0 with hw|rfl|hw
    ·rw[if_neg (by omega),bL5 hw];omega
    ·exact absurd rfl G
    ·rw[bL3 hw]at h;omega
 refine⟨key, ?_⟩
 rw[Int.fmod_def,key,Int.tmod_def]
namespace Ev
section
variable {m:Nat}
theorem bDI(z w:Int):sg (!(decide (z<0)==decide (w<0))) (z.natAbs/w.natAbs)=z.tdiv w:=by
 have p:∀n:Nat,decide (Int.ofNat n<0)=false:=fun n=>ai (by simp)
 have q:∀n:Nat,decide (Int.negSucc n<0)=true:=fun n=>ak (Int.negSucc_lt_zero n)
 cases z with
 |ofNat a=>cases w with
  |ofNat b=>rw[p,p];rfl
  |negSucc b=>rw[p,q];rfl
 |negSucc a=>cases w with
  |ofNat b=>rw[p,q];rfl
  |negSucc b=>rw[q,q];rfl
theorem aX.mulE{j k l n n':Nat}(h:aX j n)(h':aX k n')(e:j+k<=l):aX l (n*n'):=(h.mul h').mono e
theorem aX.one{k:Nat}(h:1<=k):aX k 1:=bJK (by decide:1<4294967296^1) (bK2 (by decide) h)
theorem aX.le'{j k n n':Nat}(h:aX j n)(hn:n'<=n)(e:j<=k):aX k n':=(h.le hn).mono e
theorem aD6(z:Int): -1<=z.sign/\z.sign<=1:=by
 rcases bMs z 0 with h|rfl|h
 ·rw[bL5 h];decide
 ·decide
 ·rw[bL3 h];decide
theorem bEp{et:fP}{z w:Int}:bU et .mul (.int .i64 z.sign) (.int .i64 w.sign)=some (.int .i64 (z.sign*w.sign)):=by
 have h1:=aD6 z
 have h2:=aD6 w
 have: -1<=z.sign*w.sign/\z.sign*w.sign<=1:=by
  rw[←bNj];exact aD6 _
 simp only[bU,dX,if_true]
 rw[vL (by omega) (by omega)]
theorem bD2(z w e:Int):Can [tI z,tI w,.int .i64 e]:=Can.cons (pM z) (Can.cons (pM w) (Can.cons (cQ.int _ _) Can.nil))
theorem aDq{s:VS}{z w e:Int}:dJ s [tI z,tI w,.int .i64 e]=some (.tp [tI z,tI w,.int .i64 e],false):=aBQ (bD2 z w e) (by simp only[bT,cV,aAW];decide)
theorem aZQ:bO PG 228 f228 [6,5,4,46,18] [(10,[(10,4)])]=true:=by kernel_rfl
theorem bCl{z w:Int}(h:aX 900000 z.natAbs)(h':aX 900000 w.natAbs)(c:w≠0):VX (m+8) 228 [tI z,tI w]=some (.tp [tI (z.fdiv w),tI (z.fmod w),.int .i64 ((0:Nat):Int)],false):=by
 have n1:=yM (m:=m+4) (h.mono (k:=9000000) (by decide))
 have o:=yM (m:=m+4) (h'.mono (k:=9000000) (by decide))
 refine bX rfl func228 aZQ rfl ?_
 simp only[f228,N1,bC,bF,bH,bG,bE,zB,zG]
 simp (disch:=first|rfl|omega)only[S1,aN,aC,aE,aM,aJ,zB,zC,reduceCtorEq,zD,zG,zH,TI,aQ,(n1 _).1,(o _).1]
 have lw:(aO w.natAbs).length≠0:=fun e=>c (by have:=tA.1 (bKB e);omega)
 have v:=h.len
 have l2:=h'.len
 have d:=aOH (m:=m+3) (a:=z.natAbs) (b:=w.natAbs) (by omega) (by omega) (by omega)
 have hq:aX 900000 (z.natAbs/w.natAbs):=h.le (bLb _ _)
 have hs:=tM (m:=m+5) (n:= !(decide (z<0)==decide (w<0))) (k:=z.natAbs/w.natAbs) (bK9 hq.len (by decide))
 have eq:=bDI z w
 rw[eq]at hs
 have fq:aX 900000 (z.tdiv w).natAbs:=by rw[Int.natAbs_tdiv];exact hq
 have r:=rC (m:=m+3) (z:=z.tdiv w) (w:=w) (fq.mono (by decide)) (h'.mono (by decide))
 have f:=aKK (m:=m+2) (z:=z) (w:=z.tdiv w*w) (h.mono (by decide)) (by rw[bKJ];exact fq.mulE h' (by decide))
 have er:z-z.tdiv w*w=z.tmod w:=by
  have:=Int.mul_tdiv_add_tmod z w
  rw[Int.mul_comm]at this;omega
 rw[er]at f
 refine cM (fun e=>absurd (ae e) lw) (fun e=> ?_)
 simp (disch:=first|rfl|omega)only[S1,zB,reduceCtorEq,zD,zG,zH,TI,aQ,vJ 66 rfl,(d _).2,vJ 63 rfl,hs _,wU,aC2,r _,f _]
 have s1:=aDT (m:=m+3) (z:=z.tmod w) (h.le' (by rw[Int.natAbs_tmod];exact bMJ _ _) (by decide))
 have t:=aDT (m:=m+3) (z:=w) (h'.mono (by decide))
 simp (disch:=first|rfl|omega)only[S1,aC,aE,aM,aJ,zB,reduceCtorEq,zD,zG,zH,(s1 _).1,(t _).1,bEp,sB,TI]
 refine cM (fun e=> ?_) (fun e=> ?_)
 ·obtain⟨f1,f2⟩:=bFp (ae e)
  have u:=xQ (m:=m+3) (z:=((1:Nat):Int)) (by decide) (by decide)
  have g:=aKK (m:=m+2) (z:=z.tdiv w) (w:=((1:Nat):Int)) (fq.mono (by decide)) (aX.one (by decide))
  have i:=aCw (m:=m+3) (z:=z.tmod w) (w:=w) (h.le' (by rw[Int.natAbs_tmod];exact bMJ _ _) (by decide)) (h'.mono (by decide))
  rw[show z.tdiv w-((1:Nat):Int)=z.fdiv w from f1.symm]at g
  rw[←f2]at i
  simp (disch:=first|rfl|omega)only[S1,aL,aC,aE,aM,aJ,zB,reduceCtorEq,zD,zG,zH,(u _).1,(g _).1,vJ 103 rfl,i _,TI,aDq]
 ·obtain⟨f1,f2⟩:=bHO (af e) c
  rw[f1,f2]
  simp (disch:=first|rfl|omega)only[S1,aL,aC,aE,aM,aJ,zB,reduceCtorEq,zD,zG,zH,TI,aDq]
theorem bBR{z w:Int}(h:aX 900000 z.natAbs)(h':aX 900000 w.natAbs)(c:w≠0):CC (VX (m+8)) 228 [tI z,tI w] (.tp [tI (z.fdiv w),tI (z.fmod w),.int .i64 ((0:Nat):Int)]):= .of (mG z w) (mJ z w) (bCl h h' c)
def cR(q:Rat):List TV:=[.b (decide (q.num<0)),tW (aO q.num.natAbs),.b (decide ((q.den:Int)<0)),tW (aO (q.den:Int).natAbs)]
def tR(q:Rat):TV:= .ag (cR q)
theorem aGx(q:Rat):Can (cR q):=Can.cons (cQ.b _) (Can.cons (jF _) (Can.cons (cQ.b _) (Can.cons (jF _) Can.nil)))
theorem yR(q:Rat):cQ (tR q):=cQ.ag (aGx q)
theorem vV(q:Rat):cV (tR q)=10:=by simp only[tR,cR,cV,bT,fK]
theorem aAr{q:Rat}:(tR q).cells=[.b (decide (q.num<0)),tW (aO q.num.natAbs),.b (decide ((q.den:Int)<0)),tW (aO (q.den:Int).natAbs)]:=rfl
theorem aFR{q:Rat}:TV.ag [.b (decide (q.num<0)),tW (aO q.num.natAbs),.b (decide ((q.den:Int)<0)),tW (aO (q.den:Int).natAbs)]=tR q:=rfl
theorem aTX{q:Rat}{z w:Int}(h1:z=q.num)(h2:w=(q.den:Int)):TV.ag [.b (decide (z<0)),tW (aO z.natAbs),.b (decide (w<0)),tW (aO w.natAbs)]=tR q:=by subst h1 h2;rfl
theorem aE8{s:VS}{q:Rat}:dJ s [tR q]=some (tR q,false):=tN (yR q) (by rw[vV];decide)
theorem pE{s:VS}{q:Rat}{z w:Int}(h1:z=q.num)(h2:w=(q.den:Int)):dJ s [TV.ag [.b (decide (z<0)),tW (aO z.natAbs),.b (decide (w<0)),tW (aO w.natAbs)]]=some (tR q,false):=by rw[aTX h1 h2];exact aE8
theorem aCl(q:Rat):Can [tR q]:=Can.cons (yR q) Can.nil
theorem pK(q r:Rat):Can [tR q,tR r]:=Can.cons (yR q) (Can.cons (yR r) Can.nil)
theorem aCe(q:Rat):bT [tR q]<=cL:=by simp only[bT,vV];decide
theorem sH(q r:Rat):bT [tR q,tR r]<=cL:=by simp only[bT,vV];decide
theorem TQ:type_of%(ab @aAr (ab @aFR (ab @aE8 (ab @kL (ab @qX (@aCi)))))):=(ab @aAr (ab @aFR (ab @aE8 (ab @kL (ab @qX (@aCi))))))
def FR(k:Nat)(q:Rat):Prop:=aX k q.num.natAbs/\aX k q.den
theorem FR.mono{j k:Nat}{q:Rat}(h:FR j q)(e:j<=k):FR k q:=⟨h.1.mono e,h.2.mono e⟩
theorem aFh{z:Int}:((aO z.natAbs).length=1/\(aO z.natAbs).getD 0 0=1/\¬z<0)↔z=1:=by
 constructor
 ·rintro⟨h1,h2,d⟩
  have e:=cO z.natAbs
  match o:aO z.natAbs,h1,h2,e with
  | [x],_,h2,e=>
   simp only[bNc]at h2
   subst h2
   simp [val]at e
   omega
 ·rintro rfl
  have e:aO (1:Int).natAbs=[1]:=by rw[show(1:Int).natAbs=1 from rfl,aO];simp [gH]
  rw[e];decide
theorem rb{x y:Bool}(h:x=y):TV.b x=TV.b y:=by rw[h]
theorem bEg:bO PG 157 f157 [2] []=true:=by kernel_rfl
theorem bGF{z:Int}:VX (m+1) 157 [tI z]=some (.b (decide (z=1)),false):=by
 refine bX rfl func157 bEg rfl ?_
 simp only[f157,N1,bC,bF,bH,bG,bE,zB,zG]
 simp (disch:=first|rfl|omega)only[S1]
 simp (disch:=first|rfl|omega)only[S1,aN,aC,aE,aM,aJ,zB,reduceCtorEq,zD,zG,zH,TI,aQ]
 refine sF (fun f=> ?_) (fun f=> ?_)
 ·have h1:=ae f
  simp (disch:=first|rfl|omega)only[S1,aC,aE,aM,aJ,zB,reduceCtorEq,zD,zG,zH,aQ,h1]
  refine sF (fun c=> ?_) (fun c=> ?_)
  ·simp (disch:=first|rfl|omega)only[S1,aC,aE,aM,aJ,zB,reduceCtorEq,zD,zG,zH,aQ,c]
   refine rb ?_
   have h2:=ae c
   by_cases d:z<0
   ·rw[ak d,ai (by omega)];rfl
   ·rw[ai d,ak (aFh.1 ⟨h1,h2,d⟩)];rfl
  ·simp (disch:=first|rfl|omega)only[S1,aC,aE,aM,aJ,zB,reduceCtorEq,c]
   exact rb (ai fun h=>af c (aFh.2 h).2.1).symm
 ·simp (disch:=first|rfl|omega)only[S1,aC,aE,aM,aJ,zB,reduceCtorEq,f]
  exact rb (ai fun h=>af f (aFh.2 h).1).symm
theorem aE3{z:Int}:CC (VX (m+1)) 157 [tI z] (.b (decide (z=1))):= .of (sD z) (sJ z) bGF
theorem bFG:bO PG 158 f158 [4] []=true:=by kernel_rfl
theorem bGp{z w:Int}(h:aX 900000 z.natAbs)(h':aX 900000 w.natAbs)(g:w≠0):VX (m+9) 158 [tI z,tI w]=some (tI (z.fdiv w),false):=by
 have i:=bBR (m:=m) h h' g
 refine bX rfl func158 bFG rfl ?_
 simp only[f158,N1,bC,bF,bH,bG,bE,zB,zG]
 simp (disch:=first|rfl|omega)only[S1,zB,reduceCtorEq,zD,zG,zH,TI,vJ 228 rfl,(i _).2]
theorem yS{z w:Int}(h:aX 900000 z.natAbs)(h':aX 900000 w.natAbs)(g:w≠0):CC (VX (m+9)) 158 [tI z,tI w] (tI (z.fdiv w)):= .of (mG z w) (mJ z w) (bGp h h' g)
theorem aWj:bO PG 72 f72 [2] []=true:=by kernel_rfl
theorem aXy{z:Int}(h1: -9223372036854775808<=z)(h2:z<9223372036854775808):VX (m+5) 72 [.int .i64 z]=some (tR (z:Rat),false):=by
 have f1:=xQ (m:=m) (z:=z) h1 h2
 have f2:=xQ (m:=m) (z:=((1:Nat):Int)) (by decide) (by decide)
 refine bX rfl func72 aWj rfl ?_
 simp only[f72,N1,bC,bF,bH,bG,bE,zB,zG]
 simp (disch:=first|rfl|omega)only[S1,aC,aE,aM,aJ,aD,zB,reduceCtorEq,zD,zG,zH,TQ,vJ 20 rfl,f1 _,f2 _]
 exact pE rfl rfl
theorem bAo:bO PG 159 f159 [2] []=true:=by kernel_rfl
theorem bFH{q:Rat}(h:FR 9000000 q):VX (m+5) 159 [tR q]=some (.int .i64 (gB q),false):=by
 have hs:=aDT (m:=m) h.1
 refine bX rfl func159 bAo rfl ?_
 simp only[f159,N1,bC,bF,bH,bG,bE,zB,zG]
 simp (disch:=first|rfl|omega)only[S1,aC,aE,aM,aJ,zB,reduceCtorEq,zD,zG,zH,TQ,aQ,vJ 23 rfl,hs _]
 rfl
theorem aAd{z:Int}(h1: -9223372036854775808<=z)(h2:z<9223372036854775808):CC (VX (m+5)) 72 [.int .i64 z] (tR (z:Rat)):= .of (Can.cons (cQ.int _ _) Can.nil) (by simp only[bT,cV];decide) (aXy h1 h2)
theorem aJU{q:Rat}(h:FR 9000000 q):CC (VX (m+5)) 159 [tR q] (.int .i64 (gB q)):= .of (aCl q) (aCe q) (bFH h)
theorem bFA:bO PG 161 f161 [2] []=true:=by kernel_rfl
theorem bGL{q:Rat}(h:FR 9000000 q):VX (m+4) 161 [tR q]=some (tR (-q),false):=by
 have hs:=aGR (m:=m) h.1
 refine bX rfl func161 bFA rfl ?_
 simp only[f161,N1,bC,bF,bH,bG,bE,zB,zG]
 simp (disch:=first|rfl|omega)only[S1,aD,zB,reduceCtorEq,zD,zG,zH,TQ,aQ,hs _]
 exact pE rfl rfl
theorem aTz{q:Rat}(h:FR 9000000 q):CC (VX (m+4)) 161 [tR q] (tR (-q)):= .of (aCl q) (aCe q) (bGL h)
theorem FR.mul1{k:Nat}{a b:Rat}(h:FR k a)(h':FR k b):aX (2*k) (a.num*b.den).natAbs/\aX (2*k) (a.num*b.num).natAbs/\aX (2*k) ((a.den:Int)*b.den).natAbs/\aX (2*k) ((a.den:Int)*b.num).natAbs:=by
 refine⟨?_, ?_, ?_, ?_⟩<;>rw[bKJ]<;>refine aX.mulE (j:=k) (k:=k) ?_ ?_ (by omega)
 ·exact h.1
 ·exact h'.2
 ·exact h.1
 ·exact h'.1
 ·exact h.2
 ·exact h'.2
 ·exact h.2
 ·exact h'.1
theorem bDr:bO PG 162 f162 [4] []=true:=by kernel_rfl
theorem bG0{a b:Rat}(h:FR 74900 a)(h':FR 74900 b):VX (m+7) 162 [tR a,tR b]=some (.int .i64 (gB (a-b)),false):=by
 have l:=rC (m:=m+2) (z:=a.num) (w:=(b.den:Int)) (h.1.mono (by decide)) (h'.2.mono (by decide))
 have n:=rC (m:=m+2) (z:=b.num) (w:=(a.den:Int)) (h'.1.mono (by decide)) (h.2.mono (by decide))
 have hc:=bI0 (m:=m) (z:=a.num*b.den) (w:=b.num*a.den) ((h.mul1 h').1.mono (by decide)) ((h'.mul1 h).1.mono (by decide))
 rw[←aJT]at hc
 refine bX rfl func162 bDr rfl ?_
 simp only[f162,N1,bC,bF,bH,bG,bE,zB,zG]
 simp (disch:=first|rfl|omega)only[S1,aC,aE,aM,aJ,zB,reduceCtorEq,zD,zG,zH,TQ,aQ,l _,n _,hc _]
theorem aTt{a b:Rat}(h:FR 74900 a)(h':FR 74900 b):CC (VX (m+7)) 162 [tR a,tR b] (.int .i64 (gB (a-b))):= .of (pK a b) (sH a b) (bG0 h h')
theorem aBj{z:Int}:(aO z.natAbs).length=0↔z=0:=by
 rw[bMK,tA];omega
theorem aBk{q:Rat}(h:q.num=0):q=0:=Rat.num_eq_zero.1 h
theorem aJt(z:Int)(n:Nat):z.fdiv (n:Int)=z/(n:Int):=Int.fdiv_eq_ediv_of_nonneg z (by omega)
theorem aIY(k n:Nat):(k:Int).fdiv (n:Int)=((k/n:Nat):Int):=by rw[aJt];exact(Int.natCast_ediv k n).symm
theorem aX.ediv{k:Nat}{z:Int}{n:Nat}(h:aX k z.natAbs):aX k (z/(n:Int)).natAbs:=h.le (Int.natAbs_ediv_le_natAbs z n)
theorem bCR:bO PG 226 f226 [4,45,30,21] []=true:=by kernel_rfl
theorem bH6{a b:Rat}(h:FR 74900 a)(h':FR 74900 b):VX (m+10) 226 [tR a,tR b]=some (tR (a+b),false):=by
 refine bX rfl func226 bCR rfl ?_
 simp only[f226,N1,bC,bF,bH,bG,bE,zB,zG]
 simp (disch:=first|rfl|omega)only[S1,aN,aC,aE,aM,aJ,zB,reduceCtorEq,zD,zG,zH,TQ,aQ]
 refine cM (fun e=> ?_) (fun e=> ?_)
 ·have e0:=aBk (aBj.1 (ae e))
  simp (disch:=first|rfl|omega)only[S1,zB,reduceCtorEq,zD,zG,zH,TQ]
  rw[e0,Rat.zero_add]
 have a0:=af e
 simp (disch:=first|rfl|omega)only[S1,aN,aC,aE,aM,aJ,zB,reduceCtorEq,zD,zG,zH,aQ]
 refine cM (fun e=> ?_) (fun e=> ?_)
 ·have e0:=aBk (aBj.1 (ae e))
  simp (disch:=first|rfl|omega)only[S1,zB,reduceCtorEq,zD,zG,zH,TQ]
  rw[e0,Rat.add_zero]
 have K:=af e
 have H:=aE3 (m:=m+8) (z:=(a.den:Int))
 have I:=aE3 (m:=m+8) (z:=(b.den:Int))
 simp (disch:=first|rfl|omega)only[S1,zB,reduceCtorEq,zD,zG,zH,TQ,aQ,vJ 157 rfl,H _]
 have rN:∀q:Rat,decide ((q.den:Int)=1)=true->q.den=1:=fun q h=>by have:=ae h;omega
 obtain⟨g,f⟩:∃g,g=Nat.gcd a.den b.den:=⟨_,rfl⟩
 have t:0<g:=by rw[f];exact Nat.gcd_pos_of_pos_left _ a.den_pos
 have fg:aX 74900 g:=h.2.le (by rw[f];exact Nat.gcd_le_left _ a.den_pos)
 have kg:=aEh (m:=m+4) (z:=(a.den:Int)) (w:=(b.den:Int)) (h.2.mono (by decide)) (h'.2.mono (by decide))
 rw[show Int.gcd (a.den:Int) (b.den:Int)=g from f.symm]at kg
 have og:=aE3 (m:=m+8) (z:=(g:Int))
 refine sF (fun i=> ?A) (fun i=> ?B)
 case' A=>
  simp (disch:=first|rfl|omega)only[S1,aC,aE,aM,aJ,zB,reduceCtorEq,zD,zG,zH,TQ,aQ,i,vJ 157 rfl,I _]
  refine cM (fun u=> ?C) (fun u=> ?D)
 case C=>
  have ea:=aCw (m:=m+5) (z:=a.num) (w:=b.num) (h.1.mono (by decide)) (h'.1.mono (by decide))
  simp (disch:=first|rfl|omega)only[S1,aD,zB,reduceCtorEq,zD,zG,zH,TQ,aQ,ea _]
  obtain⟨d,c⟩:=aP7 (rN _ i) (rN _ u)
  exact pE d.symm (by rw[c,rN _ i])
 all_goals
  simp (disch:=first|rfl|omega)only[S1,aC,aE,aM,aJ,zB,reduceCtorEq,zD,zG,zH,TQ,aQ,i,vJ 22 rfl,kg _,vJ 157 rfl,og _]
  refine cM (fun v=> ?_) (fun v=> ?_)
  ·have J:g=1:=by have:=ae v;omega
   subst J
   obtain⟨d,c⟩:=aNv a b 1 f (a.num*b.den+b.num*a.den) (by rw[bNk,bNk]) 1 (Nat.gcd_one_right _).symm
   rw[Int.natCast_one,Int.ediv_one]at d
   rw[bNk,bNk]at c
   have l:=rC (m:=m+5) (z:=a.num) (w:=(b.den:Int)) (h.1.mono (by decide)) (h'.2.mono (by decide))
   have o:=rC (m:=m+5) (z:=b.num) (w:=(a.den:Int)) (h'.1.mono (by decide)) (h.2.mono (by decide))
   have p:=rC (m:=m+5) (z:=(a.den:Int)) (w:=(b.den:Int)) (h.2.mono (by decide)) (h'.2.mono (by decide))
   have ea:=aCw (m:=m+5) (z:=a.num*b.den) (w:=b.num*a.den) ((h.mul1 h').1.mono (by decide)) ((h'.mul1 h).1.mono (by decide))
   simp (disch:=first|rfl|omega)only[S1,aD,zB,reduceCtorEq,zD,zG,zH,TQ,aQ,l _,o _,p _,ea _]
   exact pE d.symm (by rw[c];exact(bLa _ _).symm)
  ·have r:=yS (m:=m) (z:=(a.den:Int)) (w:=(g:Int)) (h.2.mono (by decide)) (fg.mono (by decide)) (by omega)
   have s:=yS (m:=m) (z:=(b.den:Int)) (w:=(g:Int)) (h'.2.mono (by decide)) (fg.mono (by decide)) (by omega)
   rw[aIY]at r s
   have fx:aX 74900 (a.den/g):=h.2.le (bLb _ _)
   have fy:aX 74900 (b.den/g):=h'.2.le (bLb _ _)
   obtain⟨x,hx⟩:∃x,x=a.den/g:=⟨_,rfl⟩
   obtain⟨y,E⟩:∃y,y=b.den/g:=⟨_,rfl⟩
   obtain⟨n,hn⟩:∃n:Int,n=a.num*(y:Nat)+b.num*(x:Nat):=⟨_,rfl⟩
   obtain⟨k,j⟩:∃k,k=Nat.gcd n.natAbs g:=⟨_,rfl⟩
   obtain⟨d,c⟩:=aNv a b g f n (by rw[hn,hx,E]) k j
   have L:0<k:=by rw[j];exact bMr _ t
   have fk:aX 74900 k:=fg.le (by rw[j];exact bNl _ t)
   rw[←hx]at r fx c
   rw[←E]at s fy
   have f1:aX 149800 (a.num*(y:Nat)).natAbs:=by rw[bKJ];exact h.1.mulE fy (by decide)
   have f2:aX 149800 (b.num*(x:Nat)).natAbs:=by rw[bKJ];exact h'.1.mulE fx (by decide)
   have fn:aX 149801 n.natAbs:=by rw[hn];exact(f1.add f2).le (Int.natAbs_add_le _ _)
   have l:=rC (m:=m+5) (z:=a.num) (w:=(y:Int)) (h.1.mono (by decide)) (fy.mono (by decide))
   have o:=rC (m:=m+5) (z:=b.num) (w:=(x:Int)) (h'.1.mono (by decide)) (fx.mono (by decide))
   have ea:=aCw (m:=m+5) (z:=a.num*(y:Nat)) (w:=b.num*(x:Nat)) (f1.mono (by decide)) (f2.mono (by decide))
   rw[←hn]at ea
   have kk:=aEh (m:=m+4) (z:=n) (w:=(g:Int)) (fn.mono (by decide)) (fg.mono (by decide))
   rw[show Int.gcd n (g:Int)=k from j.symm]at kk
   have F:=yS (m:=m) (z:=n) (w:=(k:Int)) (fn.mono (by decide)) (fk.mono (by decide)) (by omega)
   have G:=yS (m:=m) (z:=(b.den:Int)) (w:=(k:Int)) (h'.2.mono (by decide)) (fk.mono (by decide)) (by omega)
   rw[aJt]at F
   rw[aIY]at G
   have p:=rC (m:=m+5) (z:=(x:Int)) (w:=((b.den/k:Nat):Int)) (fx.mono (by decide)) ((h'.2.le (bLb _ _)).mono (by decide))
   simp (disch:=first|rfl|omega)only[S1,aD,zB,reduceCtorEq,zD,zG,zH,TQ,aQ,r _,s _,F _,G _,l _,o _,p _,ea _,vJ 22 rfl,kk _]
   exact pE d.symm (by rw[c];exact(bLa _ _).symm)
theorem aKD{a b:Rat}(h:FR 74900 a)(h':FR 74900 b):CC (VX (m+10)) 226 [tR a,tR b] (tR (a+b)):= .of (pK a b) (sH a b) (bH6 h h')
theorem aAH{q:Rat}(h:decide ((q.den:Int)=1)=true):q.den=1:=by have:=ae h;omega
theorem bEZ:bO PG 71 f71 [4,27,18] []=true:=by kernel_rfl
theorem bGP{a b:Rat}(h:FR 74900 a)(h':FR 74900 b):VX (m+10) 71 [tR a,tR b]=some (tR (a*b),false):=by
 have z0:=aAd (m:=m+4) (z:=((0:Nat):Int)) (by decide) (by decide)
 have v:=aE3 (m:=m+8) (z:=(a.den:Int))
 have x:=aE3 (m:=m+8) (z:=(b.den:Int))
 refine bX rfl func71 bEZ rfl ?_
 simp only[f71,N1,bC,bF,bH,bG,bE,zB,zG]
 cases i:decide ((aO a.num.natAbs).length=0)
 case' false=>cases hB:decide ((aO b.num.natAbs).length=0)
 case true=>
  simp (disch:=first|rfl|omega)only[S1,aN,aC,aE,aM,aJ,zB,reduceCtorEq,zD,zG,zH,TQ,aQ,i,vJ 72 rfl,z0 _]
  rw[show a*b=((((0:Nat):Int)):Rat) by rw[aBk (aBj.1 (ae i)),Rat.zero_mul];rfl]
 case true=>
  simp (disch:=first|rfl|omega)only[S1,aN,aC,aE,aM,aJ,zB,reduceCtorEq,zD,zG,zH,TQ,aQ,i,hB,vJ 72 rfl,z0 _]
  rw[show a*b=((((0:Nat):Int)):Rat) by rw[aBk (aBj.1 (ae hB)),Rat.mul_zero];rfl]
 simp (disch:=first|rfl|omega)only[S1,aN,aC,aE,aM,aJ,zB,reduceCtorEq,zD,zG,zH,TQ,aQ,i,hB,vJ 157 rfl,v _]
 obtain⟨g,j⟩:∃g,g=Nat.gcd a.num.natAbs b.den:=⟨_,rfl⟩
 obtain⟨k,l⟩:∃k,k=Nat.gcd b.num.natAbs a.den:=⟨_,rfl⟩
 have G:0<g:=by rw[j];exact bMr _ b.den_pos
 have H:0<k:=by rw[l];exact bMr _ a.den_pos
 have fg:aX 74900 g:=h'.2.le (by rw[j];exact bNl _ b.den_pos)
 have fk:aX 74900 k:=h.2.le (by rw[l];exact bNl _ a.den_pos)
 refine sF (fun f=> ?A) (fun f=> ?B)
 case' A=>
  simp (disch:=first|rfl|omega)only[S1,aC,aE,aM,aJ,zB,reduceCtorEq,zD,zG,zH,TQ,aQ,f,vJ 157 rfl,x _]
  refine cM (fun o=> ?C) (fun o=> ?D)
 case C=>
  have ea:=rC (m:=m+5) (z:=a.num) (w:=b.num) (h.1.mono (by decide)) (h'.1.mono (by decide))
  simp (disch:=first|rfl|omega)only[S1,aD,zB,reduceCtorEq,zD,zG,zH,TQ,aQ,ea _]
  obtain⟨c,d⟩:=aPx (aAH f) (aAH o)
  exact pE c.symm (by rw[d,aAH f])
 all_goals
  have kg:=aEh (m:=m+4) (z:=a.num) (w:=(b.den:Int)) (h.1.mono (by decide)) (h'.2.mono (by decide))
  have kk:=aEh (m:=m+4) (z:=b.num) (w:=(a.den:Int)) (h'.1.mono (by decide)) (h.2.mono (by decide))
  rw[show Int.gcd a.num (b.den:Int)=g from j.symm]at kg
  rw[show Int.gcd b.num (a.den:Int)=k from l.symm]at kk
  have p:=yS (m:=m) (z:=a.num) (w:=(g:Int)) (h.1.mono (by decide)) (fg.mono (by decide)) (by omega)
  have r:=yS (m:=m) (z:=b.num) (w:=(k:Int)) (h'.1.mono (by decide)) (fk.mono (by decide)) (by omega)
  have t:=yS (m:=m) (z:=(a.den:Int)) (w:=(k:Int)) (h.2.mono (by decide)) (fk.mono (by decide)) (by omega)
  have u:=yS (m:=m) (z:=(b.den:Int)) (w:=(g:Int)) (h'.2.mono (by decide)) (fg.mono (by decide)) (by omega)
  rw[aJt]at p r
  rw[aIY]at t u
  have n:=rC (m:=m+5) (z:=a.num/(g:Int)) (w:=b.num/(k:Int)) (h.1.ediv.mono (by decide)) (h'.1.ediv.mono (by decide))
  have y:=rC (m:=m+5) (z:=((a.den/k:Nat):Int)) (w:=((b.den/g:Nat):Int)) ((h.2.le (bLb _ _)).mono (by decide)) ((h'.2.le (bLb _ _)).mono (by decide))
  simp (disch:=first|rfl|omega)only[S1,aC,aE,aM,aJ,aD,zB,reduceCtorEq,zD,zG,zH,TQ,aQ,f,kg _,kk _,p _,r _,t _,u _,n _,y _]
  obtain⟨c,d⟩:=aYC a b g k j l
  exact pE c.symm (by rw[d];exact(bLa _ _).symm)
theorem aGy{a b:Rat}(h:FR 74900 a)(h':FR 74900 b):CC (VX (m+10)) 71 [tR a,tR b] (tR (a*b)):= .of (pK a b) (sH a b) (bGP h h')
theorem aN0{a:Rat}(h:a≠0):a⁻¹.num=(if a.num<0 then-(a.den:Int)else a.den)/\(a⁻¹.den:Int)=(if a.num<0 then-a.num else a.num):=by
 have hn:a.num≠0:=fun e=>h (aBk e)
 rw[Rat.num_inv,Rat.den_inv,if_neg hn]
 split
 ·next h1=>rw[bL5 h1];omega
 ·next h1=>rw[bL3 (by omega)];omega
theorem bFI:bO PG 281 f281 [2] []=true:=by kernel_rfl
theorem bH0{a:Rat}(h:FR 9000000 a)(h0:a≠0):VX (m+4) 281 [tR a]=some (tR a⁻¹,false):=by
 have n1:=aGR (m:=m) (z:=(a.den:Int)) h.2
 have E:=aGR (m:=m) (z:=a.num) h.1
 obtain⟨c,d⟩:=aN0 h0
 refine bX rfl func281 bFI rfl ?_
 simp only[f281,N1,bC,bF,bH,bG,bE,zB,zG]
 simp (disch:=first|rfl|omega)only[S1,zB,reduceCtorEq,zD,zG,zH,TQ,aQ]
 refine cM (fun e=> ?_) (fun e=> ?_)
 ·simp (disch:=first|rfl|omega)only[S1,aD,zB,reduceCtorEq,zD,zG,zH,TQ,aQ,n1 _,E _]
  rw[if_pos (ae e)]at c d
  exact pE c.symm d.symm
 ·simp (disch:=first|rfl|omega)only[S1,aD,zB,reduceCtorEq,zD,zG,zH,TQ,aQ]
  rw[if_neg (af e)]at c d
  exact pE c.symm d.symm
theorem bGt{a:Rat}(h:FR 9000000 a)(h0:a≠0):CC (VX (m+4)) 281 [tR a] (tR a⁻¹):= .of (aCl a) (aCe a) (bH0 h h0)
theorem FR.inv{k:Nat}{a:Rat}(h:FR k a)(h0:a≠0):FR k a⁻¹:=by
 obtain⟨c,d⟩:=aN0 h0
 constructor
 ·rw[c];split
  ·rw[bLJ];exact h.2
  ·exact h.2
 ·have:(a⁻¹.den:Int).natAbs=a.num.natAbs:=by rw[d];split<;>simp
  have e:a⁻¹.den=a.num.natAbs:=this
  rw[e];exact h.1
theorem bHq(q:Rat)(e:Int):Can [tR q,.int .i64 e]:=Can.cons (yR q) (Can.cons (cQ.int _ _) Can.nil)
theorem aJn{s:VS}{q:Rat}{e:Int}:dJ s [tR q,.int .i64 e]=some (.tp [tR q,.int .i64 e],false):=aBQ (bHq q e) (by simp only[bT,cV,vV];decide)
theorem bFc:bO PG 224 f224 [5,4] []=true:=by kernel_rfl
theorem bGc{a b:Rat}(h:FR 74900 a)(h':FR 74900 b)(h0:b≠0):VX (m+11) 224 [tR a,tR b]=some (.tp [tR (a/b),.int .i64 ((0:Nat):Int)],false):=by
 have F:=bGt (m:=m+6) (h'.mono (k:=9000000) (by decide)) h0
 have n:=aGy (m:=m) h (h'.inv h0)
 rw[←Rat.div_def]at n
 have hn:b.num≠0:=fun e=>h0 (aBk e)
 refine bX rfl func224 bFc rfl ?_
 simp only[f224,N1,bC,bF,bH,bG,bE,zB,zG]
 simp (disch:=first|rfl|omega)only[S1,aN,aC,aE,aM,aJ,zB,reduceCtorEq,zD,zG,zH,TQ,aQ]
 refine cM (fun e=>absurd (aBj.1 (ae e)) hn) (fun e=> ?_)
 simp (disch:=first|rfl|omega)only[S1,aC,aE,aM,aJ,zB,reduceCtorEq,zD,zG,zH,TQ,F _,n _,aJn]
theorem bHQ{a b:Rat}(h:FR 74900 a)(h':FR 74900 b)(h0:b≠0):CC (VX (m+11)) 224 [tR a,tR b] (.tp [tR (a/b),.int .i64 ((0:Nat):Int)]):= .of (pK a b) (sH a b) (bGc h h' h0)
end
end Ev
def co(l:List Rat)(j:Nat):Rat:=l.getD j 0
theorem uF(j:Nat):co [] j=0:=by simp [co]
theorem aDI(a:Rat)(l:List Rat)(j:Nat):co (a::l) (j+1)=co l j:=rfl
theorem iF{l:List Rat}{j:Nat}(h:l.length<=j):co l j=0:=by simp [co,h]
theorem wK{l:List Rat}{j:Nat}(h:j<l.length):co l j=l[j]:=by simp [co,h]
theorem aGs{l:List Rat}{j:Nat}(h:j<l.length):co l j∈l:=by rw[wK h];exact bLR h
def tr:List Rat->List Rat
 | []=>[]
 |a::l=>if tr l=[]then(if a=0 then []else [a])else a::tr l
theorem fG:∀(l:List Rat) (j:Nat),co (tr l) j=co l j
 | [],_=>rfl
 | a::l,j=>by
  unfold tr
  split
  ·next h=>
   have ih:=fG l
   rw[h]at ih
   cases j with
   |zero=>
    split
    ·next h0=>rw[h0];rfl
    ·rfl
   |succ j=>
    rw[aDI,←ih j,uF]
    split
    ·exact uF _
    ·rw[aDI,uF]
  ·cases j with
   |zero=>rfl
   |succ j=>rw[aDI,aDI,fG l j]
theorem fN:∀l:List Rat,(tr l).length<=l.length
 | []=>bJE _
 |a::l=>by
  have ih:=fN l
  unfold tr
  split
  ·split<;>simp
  ·simp only[bJN];omega
theorem mD:∀(l:List Rat),tr l≠ []->co (tr l) ((tr l).length-1)≠0
 | [],h=>absurd rfl h
 | a::l,h=>by
  unfold tr at h ⊢
  split at h
  ·next h1=>
   rw[if_pos h1]
   split at h
   ·exact absurd rfl h
   ·next h2=>rw[if_neg h2];exact h2
  ·next h1=>
   rw[if_neg h1]
   have ih:=mD l h1
   have I:0<(tr l).length:=by
    rcases bLF (tr l).length with h0|h0
    ·exact absurd (bKB h0) h1
    ·exact h0
   rw[bJN,bKs,show(tr l).length=(tr l).length-1+1 by omega,aDI]
   exact ih
theorem vU{l m:List Rat}(I:l≠ []->co l (l.length-1)≠0)(z:m≠ []->co m (m.length-1)≠0)(h:∀j,co l j=co m j):l=m:=by
 have key:∀ {l m:List Rat},(m≠ []->co m (m.length-1)≠0)->(∀j,co l j=co m j)->m.length<=l.length:=fun {l m} z h=>by
  rcases bJS l.length m.length with g|hge
  ·have o:m≠ []:=fun e=>by rw[e]at g;simp at g
   have:=z o
   rw[←h,iF (by omega)]at this
   exact absurd rfl this
  ·exact hge
 have e:l.length=m.length:=Nat.le_antisymm (key I fun j=>(h j).symm) (key z h)
 refine List.ext_getElem e fun j h1 h2=> ?_
 have:=h j
 rwa [wK h1,wK h2]at this
def NF(l:List Rat):Prop:=l≠ []->co l (l.length-1)≠0
theorem NF.tr(l:List Rat):NF (tr l):=mD l
theorem aAY{l m:List Rat}(h:∀j,co l j=co m j):tr l=tr m:=vU (mD l) (mD m) fun j=>by rw[fG,fG];exact h j
theorem NF.eq{l:List Rat}(h:NF l):Go.Proofs.YtmjoaipkaddkbaaGreatDoor.tr l=l:=vU (mD l) h fun j=>fG l j
theorem aGJ(l:List Rat):tr (tr l)=tr l:=(NF.tr l).eq
theorem vN{l:List Rat}{n:Nat}(h:∀j,n<=j->co l j=0):(tr l).length<=n:=by
 rcases bJS n (tr l).length with g|hge
 ·have o:tr l≠ []:=fun e=>by rw[e]at g;simp at g
  have:=mD l o
  rw[fG,h _ (by omega)]at this
  exact absurd rfl this
 ·exact hge
theorem aJq{l:List Rat}{j:Nat}(h:co l j≠0):j<(tr l).length:=by
 rcases bJS j (tr l).length with g|hge
 ·exact g
 ·exact absurd (by rw[←fG,iF hge]) h
theorem yJ:∀ {l:List Rat} {q:Rat},q∈tr l->q∈l
 | [],q,h=>by cases h
 | a::l,q,h=>by
  unfold tr at h
  split at h
  ·split at h
   ·cases h
   ·simp only[bJZ,List.not_mem_nil,or_false]at h;rw[h];exact .head _
  ·rcases bJZ.1 h with rfl|h
   ·exact .head _
   ·exact .tail _ (yJ h)
def mk(n:Nat)(f:Nat->Rat):List Rat:=(List.range n).map f
theorem iX(n:Nat)(f:Nat->Rat):(mk n f).length=n:=by simp [mk]
theorem aCu{n:Nat}{f:Nat->Rat}(j:Nat):co (mk n f) j=if j<n then f j else 0:=by
 split
 ·next h=>rw[wK (by rw[iX];exact h)];simp [mk]
 ·next h=>exact iF (by rw[iX];omega)
theorem tZ{n:Nat}{f:Nat->Rat}{q:Rat}(h:q∈mk n f):∃j,j<n/\q=f j:=by
 simp only[mk,List.mem_map,List.mem_range]at h
 obtain⟨j,h1,h2⟩:=h
 exact⟨j,h1,h2.symm⟩
def oJ(r b:List Rat)(n:Nat)(c:Rat):List Rat:=mk (max r.length (b.length+n)) fun j=>co r j-c*(if n<=j then co b (j-n)else 0)
theorem aDD(r b:List Rat)(n:Nat)(c:Rat)(j:Nat):co (oJ r b n c) j=co r j-c*(if n<=j then co b (j-n)else 0):=by
 unfold oJ
 rw[aCu]
 split
 ·rfl
 ·next h=>
  rw[iF (by omega)]
  split
  ·rw[iF (by omega)];grind
  ·grind
def wD(q:List Rat)(n:Nat)(c:Rat):List Rat:=mk (max q.length (n+1)) fun j=>if j=n then co q j+c else co q j
theorem aAu(q:List Rat)(n:Nat)(c:Rat)(j:Nat):co (wD q n c) j=if j=n then co q j+c else co q j:=by
 unfold wD
 rw[aCu]
 split
 ·rfl
 ·next h=>rw[if_neg (by omega),iF (by omega)]
def mX(b:List Rat):Nat->List Rat->List Rat->List Rat×List Rat
 |0,q,r=>(q,r)
 |f+1,q,r=>if r.length<b.length then(q,r)else mX b f (tr (wD q (r.length-b.length) (co r (r.length-1)/co b (b.length-1)))) (tr (oJ r b (r.length-b.length) (co r (r.length-1)/co b (b.length-1))))
def zW(a b:List Rat):List Rat×List Rat:=mX (tr b) ((tr a).length+1) [] (tr a)
def qC(a b:List Rat):List Rat:=(zW a b).1
def fH(a b:List Rat):List Rat:=(zW a b).2
theorem aD9{r b:List Rat}(s:NF b)(d:b≠ [])(h:b.length<=r.length):(tr (oJ r b (r.length-b.length) (co r (r.length-1)/co b (b.length-1)))).length<r.length:=by
 have N:0<b.length:=bKz.2 d
 have h1:(tr (oJ r b (r.length-b.length) (co r (r.length-1)/co b (b.length-1)))).length<=r.length-1:=vN fun j hj=>by
  rw[aDD]
  by_cases e:j=r.length-1
  ·rw[e,if_pos (by omega),show r.length-1-(r.length-b.length)=b.length-1 by omega]
   have:=s d
   rw[Rat.div_mul_cancel this]
   grind
  ·rw[iF (l:=r) (j:=j) (by omega)]
   split
   ·rw[iF (l:=b) (j:=j-(r.length-b.length)) (by omega)];grind
   ·grind
 omega
theorem aRS{b:List Rat}(s:NF b)(d:b≠ []):∀(f:Nat) (q r:List Rat),r.length<f->NF r->(mX b f q r).2.length<b.length/\NF (mX b f q r).2
 |0,_,_,h,_=>by omega
 | f+1,q,r,h1,A=>by
  simp only[mX]
  split
  ·next h=>exact⟨h,A⟩
  ·next h=>
   have i:=aD9 s d (bMo.1 h)
   exact aRS s d f _ _ (by omega) (NF.tr _)
theorem aJC(l:List Rat)(n j:Nat):co (l.take n) j=if j<n then co l j else 0:=by
 unfold co
 simp only[bK0,bKY]
 split<;>rfl
theorem aLJ{l:List Rat}{n:Nat}(h:co l n=0):tr (l.take (n+1))=tr (l.take n):=aAY fun j=>by
 rw[aJC,aJC]
 by_cases h1:j<n
 ·rw[if_pos h1,if_pos (by omega)]
 ·rw[if_neg h1]
  by_cases h2:j=n
  ·rw[h2,if_pos (by omega),h]
  ·rw[if_neg (by omega)]
theorem aLL{l:List Rat}{n:Nat}(hn:n<l.length)(h:co l n≠0):tr (l.take (n+1))=l.take (n+1):=NF.eq fun _=>by
 rw[bJO,bK7 (by omega),bKs,aJC,if_pos (by omega)]
 exact h
theorem aFx{q:Rat}:gB q=0↔q=0:=by unfold gB;rw[Int.sign_eq_zero_iff_zero,Rat.num_eq_zero]
theorem aBS(n:Nat)(f:Nat->Rat):mk (n+1) f=mk n f++[f n]:=by simp [mk,List.range_succ]
theorem bFR(l m:List Rat)(j:Nat):co (l++m) j=if j<l.length then co l j else co m (j-l.length):=by
 unfold co
 simp only[bK0,List.getElem?_append]
 split<;>rfl
theorem aGu(n j:Nat):co (bJL n 0) j=0:=by
 unfold co
 simp only[bK0,List.getElem?_replicate]
 split<;>rfl
def WD(k:Nat)(l:List Rat):Prop:=∃D:Nat,0<D/\D<2^k/\∀q∈l,∃n:Int,q*(D:Rat)=(n:Rat)/\n.natAbs<2^k
theorem WD.mono{j k:Nat}{l:List Rat}(h:WD j l)(t:j<=k):WD k l:=by
 obtain⟨D,h1,h2,i⟩:=h
 have W:2^j<=2^k:=bK2 (by decide) t
 exact⟨D,h1,by omega,fun q hq=>let ⟨n,w,J⟩:=i q hq;⟨n,w,by omega⟩⟩
theorem WD.sub{k:Nat}{l m:List Rat}(h:WD k l)(hs:∀q∈m,q∈l):WD k m:=let ⟨D,h1,h2,i⟩:=h;⟨D,h1,h2,fun q hq=>i q (hs q hq)⟩
theorem WD.tr{k:Nat}{l:List Rat}(h:WD k l):WD k (tr l):=h.sub fun _ hq=>yJ hq
theorem WD.co{k:Nat}{l:List Rat}(h:WD k l):∃D:Nat,0<D/\D<2^k/\∀j,∃n:Int,co l j*(D:Rat)=(n:Rat)/\n.natAbs<2^k:=by
 obtain⟨D,h1,h2,i⟩:=h
 refine⟨D,h1,h2,fun j=> ?_⟩
 rcases bJS j l.length with hj|hj
 ·exact i _ (aGs hj)
 ·refine⟨0, ?_,by simp;exact bMt _⟩
  rw[iF hj];simp
theorem aET{q:Rat}{D:Nat}{n:Int}(K:0<D)(h:q*(D:Rat)=(n:Rat)):q.den<=D/\q.num.natAbs<=n.natAbs:=by
 have e:q.num*D=n*q.den:=by
  have h1:mkRat (q.num*D) (q.den*1)=mkRat n 1:=by
   rw[←Rat.mkRat_self (n:Rat)]at h
   rw[Rat.mul_def']at h
   exact h
  have h2:=(Rat.mkRat_eq_iff (by rw[bKk];exact q.den_nz) (by decide)).1 h1
  simpa using h2
 have en:q.num.natAbs*D=n.natAbs*q.den:=by
  have:=congrArg Int.natAbs e
  rwa [bKJ,bKJ]at this
 have B:q.den∣D:=by
  have:q.den∣q.num.natAbs*D:=⟨n.natAbs,by rw[en,bJR]⟩
  exact bNi.dvd_of_dvd_mul_left q.reduced.symm this
 obtain⟨k,t⟩:=B
 have C:0<k:=by
  rcases bLF k with h0|h0
  ·rw[h0]at t;omega
  ·exact h0
 refine⟨bMa K ⟨k,t⟩, ?_⟩
 have:n.natAbs=q.num.natAbs*k:=by
  have i:n.natAbs*q.den=q.num.natAbs*k*q.den:=by rw[←en,t];rw[bJR q.den k,bK1]
  exact Nat.eq_of_mul_eq_mul_right q.den_pos i
 rw[this]
 exact bM9 _ C
theorem WD.parts{k:Nat}{l:List Rat}(h:WD k l){q:Rat}(hq:q∈l):q.den<2^k/\q.num.natAbs<2^k:=by
 obtain⟨D,h1,h2,i⟩:=h
 obtain⟨n,w,J⟩:=i q hq
 obtain⟨p1,p2⟩:=aET h1 w
 omega
theorem WD.step{k m:Nat}{r b:List Rat}(A:WD k r)(s:WD m b)(d:Go.Proofs.YtmjoaipkaddkbaaGreatDoor.co b (b.length-1)≠0)(n:Nat):WD (k+m+1) (oJ r b n (Go.Proofs.YtmjoaipkaddkbaaGreatDoor.co r (r.length-1)/Go.Proofs.YtmjoaipkaddkbaaGreatDoor.co b (b.length-1))):=by
 obtain⟨D,d1,d2,d3⟩:=A.co
 obtain⟨E,w,J,L⟩:=s.co
 obtain⟨x,O,P⟩:=d3 (r.length-1)
 obtain⟨y,F,M⟩:=L (b.length-1)
 generalize Go.Proofs.YtmjoaipkaddkbaaGreatDoor.co r (r.length-1)=X at*
 generalize Go.Proofs.YtmjoaipkaddkbaaGreatDoor.co b (b.length-1)=Y at*
 have Q:(E:Rat)≠0:=by rw[ne_eq,Rat.natCast_eq_zero_iff];omega
 have K:(D:Rat)≠0:=by rw[ne_eq,Rat.natCast_eq_zero_iff];omega
 have p:y≠0:=fun h=>by
  rw[h]at F
  rcases Rat.mul_eq_zero.1 (F.trans rfl)with h|h
  ·exact d h
  ·exact Q h
 have hY:(y:Rat)≠0:=by rw[ne_eq,Rat.intCast_eq_zero_iff];exact p
 have pw:2^(k+m)=2^k*2^m:=bL4 _ _ _
 have pw1:2^(k+m+1)=2^(k+m)*2:=bJX _ _
 have G:0<y.natAbs:=by omega
 refine⟨D*y.natAbs,bKG d1 G, ?_,fun q hq=> ?_⟩
 ·have:=bLA d2 M
  omega
 ·obtain⟨j,_,rfl⟩:=tZ hq
  obtain⟨u,R,S⟩:=d3 j
  obtain⟨v,T,v2⟩:∃v:Int,(if n<=j then Go.Proofs.YtmjoaipkaddkbaaGreatDoor.co b (j-n)else 0)*(E:Rat)=(v:Rat)/\v.natAbs<2^m:=by
   split
   ·exact L _
   ·exact⟨0,by simp,by simp;exact bMt _⟩
  generalize Go.Proofs.YtmjoaipkaddkbaaGreatDoor.co r j=U at*
  generalize (if n<=j then Go.Proofs.YtmjoaipkaddkbaaGreatDoor.co b (j-n)else(0:Rat))=V at*
  refine⟨y.sign*(u*y-x*v), ?_, ?_⟩
  ·have hs:((y.natAbs:Nat):Rat)=((y.sign*y:Int):Rat):=by
    rw[←Rat.intCast_natCast,Rat.intCast_inj]
    rcases bNm p with hn|hn
    ·rw[bL5 hn];omega
    ·rw[bL3 hn];omega
   rw[Rat.natCast_mul,hs]
   simp only[Rat.intCast_mul,Rat.intCast_sub]
   rw[←R,←O,←T,←F]
   have H:X/Y*Y=X:=Rat.div_mul_cancel d
   generalize X/Y=Z at*
   subst H
   grind
  ·rw[bKJ]
   have h1:y.sign.natAbs=1:=Int.natAbs_sign_of_ne_zero p
   rw[h1,bLI]
   have a1:(u*y).natAbs<2^(k+m):=by rw[bKJ,pw];exact bLA S M
   have a2:(x*v).natAbs<2^(k+m):=by rw[bKJ,pw];exact bLA P v2
   omega
theorem aBJ(q:Rat):q*(q.den:Rat)=(q.num:Rat):=by
 have h1:q*(q.den:Rat)=mkRat (q.num*q.den) (q.den*1):=Rat.mul_def' q (q.den:Rat)
 rw[h1,←Rat.mkRat_self (q.num:Rat)]
 refine(Rat.mkRat_eq_iff (by rw[bKk];exact q.den_nz) (Rat.den_nz _)).2 ?_
 show q.num*q.den*((1:Nat):Int)=q.num*((q.den*1:Nat):Int)
 simp
theorem aMQ(a b:Rat):(a+b).den<=a.den*b.den/\(a+b).num.natAbs<=a.num.natAbs*b.den+b.num.natAbs*a.den:=by
 have h:=aET (q:=a+b) (D:=a.den*b.den) (n:=a.num*b.den+b.num*a.den) (bKG a.den_pos b.den_pos) (by
  have h1:=aBJ a
  have h2:=aBJ b
  simp only[Rat.natCast_mul,Rat.intCast_add,Rat.intCast_mul,Rat.intCast_natCast,←h1,←h2]
  grind)
 refine⟨h.1,bJH h.2 (bJH (Int.natAbs_add_le _ _) ?_)⟩
 rw[bKJ,bKJ]
 exact bJE _
theorem aZa(a b:Rat):(a*b).den<=a.den*b.den/\(a*b).num.natAbs<=a.num.natAbs*b.num.natAbs:=by
 have h:=aET (q:=a*b) (D:=a.den*b.den) (n:=a.num*b.num) (bKG a.den_pos b.den_pos) (by
  have h1:=aBJ a
  have h2:=aBJ b
  simp only[Rat.natCast_mul,Rat.intCast_mul,←h1,←h2]
  grind)
 exact⟨h.1,by rw[←bKJ];exact h.2⟩
def aBf(l i:List Rat):List Rat:=tr (mk (max l.length i.length) fun j=>co l j+co i j)
def aCJ(l i:List Rat):List Rat:=tr (mk (max l.length i.length) fun j=>co l j-co i j)
def eH(l:List Rat)(c:Rat):List Rat:=tr (mk l.length fun j=>co l j*c)
def kE(l:List Rat)(n:Nat):List Rat:=tr (bJL n 0++l)
theorem aJG(l i:List Rat)(j:Nat):co (aBf l i) j=co l j+co i j:=by
 rw[aBf,fG,aCu]
 split
 ·rfl
 ·rw[iF (l:=l) (by omega),iF (l:=i) (by omega),Rat.add_zero]
theorem aRh(l i:List Rat)(j:Nat):co (aCJ l i) j=co l j-co i j:=by
 rw[aCJ,fG,aCu]
 split
 ·rfl
 ·rw[iF (l:=l) (by omega),iF (l:=i) (by omega),Rat.sub_self]
theorem rX(l:List Rat)(c:Rat)(j:Nat):co (eH l c) j=co l j*c:=by
 rw[eH,fG,aCu]
 split
 ·rfl
 ·rw[iF (l:=l) (by omega),Rat.zero_mul]
theorem aIg(l:List Rat)(n j:Nat):co (kE l n) j=if n<=j then co l (j-n)else 0:=by
 rw[kE,fG]
 rw[bFR,bKu,aGu]
 by_cases h:j<n
 ·rw[if_pos h,if_neg (by omega)]
 ·rw[if_neg h,if_pos (by omega)]
def qG(a b:List Rat):Nat->List Rat
 |0=>[]
 |k+1=>aBf (qG a b k) (kE (eH a (co b k)) k)
theorem NF.padd(l i:List Rat):NF (aBf l i):= .tr _
theorem NF.nil:NF []:=fun h=>absurd rfl h
theorem aFJ{l:List Rat}(h:NF l){n:Nat}(z:∀j,n<=j->co l j=0):l.length<=n:=by rw[←h.eq];exact vN z
theorem aAT{l:List Rat}{q:Rat}(h:q∈l):∃j,j<l.length/\q=co l j:=by
 obtain⟨j,m,e⟩:=List.mem_iff_getElem.1 h
 exact⟨j,m,by rw[wK m,e]⟩
theorem bGo(c:Rat)(j:Nat):co [c] j=if j=0 then c else 0:=by
 cases j with
 |zero=>rfl
 |succ j=>rfl
theorem aDG(c:Rat)(n j:Nat):co (kE [c] n) j=if j=n then c else 0:=by
 rw[aIg,bGo]
 by_cases h:j=n
 ·rw[if_pos (by omega),if_pos (by omega),if_pos h]
 ·rw[if_neg h]
  split
  ·rw[if_neg (by omega)]
  ·rfl
theorem NF.pms(a b:List Rat):∀k,NF (qG a b k)
 |0=> .nil
 |_+1=> .padd _ _
theorem aGn(b:List Rat)(c:Rat)(n j:Nat):∀k,co (qG (kE [c] n) b k) j=if n<=j/\j-n<k then c*co b (j-n)else 0
 |0=>by rw[if_neg (by omega)];exact uF j
 | k+1=>by
  simp only[qG]
  rw[aJG,aGn b c n j k,aIg,rX,aDG]
  by_cases h:n<=j/\j-n<k
  ·rw[if_pos h,if_pos (show n<=j/\j-n<k+1 by omega)]
   by_cases s:k<=j
   ·rw[if_pos s,if_neg (by omega),Rat.zero_mul,Rat.add_zero]
   ·rw[if_neg s,Rat.add_zero]
  ·rw[if_neg h,Rat.zero_add]
   by_cases t:n<=j/\j-n=k
   ·rw[if_pos (show k<=j by omega),if_pos (show j-k=n by omega),if_pos (show n<=j/\j-n<k+1 by omega),t.2]
   ·rw[if_neg (show ¬(n<=j/\j-n<k+1) by omega)]
    by_cases s:k<=j
    ·rw[if_pos s,if_neg (by omega),Rat.zero_mul]
    ·rw[if_neg s]
theorem bDA(b:List Rat)(c:Rat)(n k:Nat):(qG (kE [c] n) b k).length<=n+k:=aFJ (NF.pms _ _ _) fun j m=>by rw[aGn,if_neg (by omega)]
theorem aYI(r b:List Rat)(c:Rat)(n:Nat):aCJ r (qG (kE [c] n) b b.length)=tr (oJ r b n c):=vU (mD _) (mD _) fun j=>by
 rw[aRh,fG,aDD,aGn]
 congr 1
 by_cases h1:n<=j
 ·by_cases h2:j-n<b.length
  ·rw[if_pos ⟨h1,h2⟩,if_pos h1]
  ·rw[if_neg (fun h=>h2 h.2),if_pos h1,iF (l:=b) (by omega),Rat.mul_zero]
 ·rw[if_neg (fun h=>h1 h.1),if_neg h1,Rat.mul_zero]
theorem aXp(q:List Rat)(c:Rat)(n:Nat):aBf q (kE [c] n)=tr (wD q n c):=vU (mD _) (mD _) fun j=>by
 rw[aJG,fG,aAu,aDG]
 split
 ·rfl
 ·rw[Rat.add_zero]
theorem aTj{b:List Rat}{kb:Nat}(o:WD kb b)(hn:NF b)(d:b≠ []):∀(f k:Nat) (q r:List Rat),r.length<f->WD k r->WD (k+(r.length+1-b.length)*(kb+1)) (mX b f q r).2
 |0,_,_,_,h,_=>by omega
 | f+1,k,q,r,h,v=>by
  simp only[mX]
  split
  ·exact v.mono (Nat.le_add_right _ _)
  ·next h1=>
   have h2:=aD9 hn d (bMo.1 h1)
   have t:=(v.step o (hn d) (r.length-b.length)).tr
   refine(aTj o hn d f (k+kb+1) _ _ (by omega) t).mono ?_
   have s:=bK8 (kb+1) (show(tr (oJ r b (r.length-b.length) (co r (r.length-1)/co b (b.length-1)))).length+1-b.length<=r.length-b.length by omega)
   have T:(r.length+1-b.length)*(kb+1)=(r.length-b.length)*(kb+1)+(kb+1):=by
    rw[show r.length+1-b.length=r.length-b.length+1 by omega,bKZ]
   omega
theorem bDK{a b:List Rat}{ka kb:Nat}(A:WD ka a)(o:WD kb b)(d:tr b≠ []):WD (ka+((tr a).length+1-(tr b).length)*(kb+1)) (fH a b):=aTj o.tr (.tr b) d _ _ _ _ (bJT _) A.tr
theorem aBv{a b:List Rat}(d:tr b≠ []):(fH a b).length<(tr b).length/\NF (fH a b):=aRS (.tr b) d _ _ _ (bJT _) (.tr a)
theorem aR5:∀(f:Nat) (q r:List Rat),NF r->NF q->r.length<f->(∀j,j<r.length->co q j=0)->NF (mX [1] f q r).1/\∀j,co (mX [1] f q r).1 j=co q j+co r j
 |0,_,_,_,_,h,_=>by omega
 | f+1,q,r,v,hq,h,z=>by
  simp only[mX]
  split
  ·next h1=>
   have:r=[]:=bKB (by simpa using h1)
   subst this
   exact⟨hq,fun j=>by rw[uF,Rat.add_zero]⟩
  ·next h1=>
   have u:1<=r.length:=bMo.1 h1
   have n1:NF [1]:=fun _=>by show(1:Rat)≠0;decide
   have h2:=aD9 n1 (by simp) (show [(1:Rat)].length<=r.length from u)
   have hc:co r (r.length-1)/co [(1:Rat)] ([(1:Rat)].length-1)=co r (r.length-1):=by
    show co r (r.length-1)/1=_
    have:=Rat.div_mul_cancel (a:=co r (r.length-1)) (b:=1) (by decide)
    rwa [Rat.mul_one]at this
   rw[hc]at h2 ⊢
   have J:r.length- [(1:Rat)].length=r.length-1:=rfl
   rw[J]at h2 ⊢
   obtain⟨g1,g2⟩:=aR5 f (tr (wD q (r.length-1) (co r (r.length-1)))) (tr (oJ r [1] (r.length-1) (co r (r.length-1)))) (.tr _) (.tr _) (by omega) fun j m=>by
    rw[fG,aAu,if_neg (by omega)]
    exact z j (by omega)
   refine⟨g1,fun j=> ?_⟩
   rw[g2,fG,fG,aAu,aDD]
   by_cases e:j=r.length-1
   ·subst e
    rw[if_pos rfl,if_pos (bJE _),Nat.sub_self,z _ (by omega)]
    show 0+co r (r.length-1)+(co r (r.length-1)-co r (r.length-1)*1)=_
    grind
   ·rw[if_neg e]
    split
    ·rw[iF (l:=[1]) (j:=j-(r.length-1)) (by simp;omega)];grind
    ·grind
theorem aIP(a:List Rat):qC a [1]=tr a:=by
 have h1:tr [1]=[1]:=NF.eq fun _=>by show(1:Rat)≠0;decide
 unfold qC zW
 rw[h1]
 obtain⟨g1,g2⟩:=aR5 ((tr a).length+1) [] (tr a) (.tr a) .nil (bJT _) fun j _=>uF j
 exact vU g1 (mD a) fun j=>by rw[g2,uF,Rat.zero_add]
def gV(a:List Rat):Rat:=co (tr a) ((tr a).length-1)
def bL(a:List Rat):List Rat:=eH (tr a) (1/gV a)
theorem tY{a:List Rat}(h:tr a≠ []):gV a≠0:=mD a h
theorem NF.pmonic(a:List Rat):NF (bL a):= .tr _
theorem aBD(a:List Rat)(j:Nat):co (bL a) j=co a j*(1/gV a):=by rw[YtmjoaipkaddkbaaGreatDoor.bL,rX,fG]
theorem aKh{x:Rat}(h:x≠0):1/x≠0:=by
 intro e
 have h1:=Rat.div_mul_cancel (a:=1) h
 rw[e,Rat.zero_mul]at h1
 exact absurd h1 (by decide)
theorem kX(a:List Rat):(bL a).length=(tr a).length:=by
 by_cases h:tr a=[]
 ·have e:bL a=[]:=by unfold YtmjoaipkaddkbaaGreatDoor.bL eH;rw[h];rfl
  rw[e,h]
 ·have H:0<(tr a).length:=bKz.2 h
  have h1:(bL a).length<=(tr a).length:=aFJ (NF.pmonic a) fun j m=>by rw[aBD,←fG,iF m,Rat.zero_mul]
  have h2:(tr a).length-1<(bL a).length:=by
   rw[←(NF.pmonic a).eq]
   refine aJq ?_
   rw[aBD,←fG]
   intro e
   rcases Rat.mul_eq_zero.1 e with e|e
   ·exact mD a h e
   ·exact aKh (tY h) e
  omega
theorem WD.monic{k:Nat}{l:List Rat}(h:WD k l):WD k (bL l):=by
 by_cases h0:YtmjoaipkaddkbaaGreatDoor.tr l=[]
 ·have e:bL l=[]:=by unfold bL eH;rw[h0];rfl
  rw[e];exact h.sub fun _ h=>by cases h
 ·obtain⟨D,d1,d2,d3⟩:=h.co
  obtain⟨y,B,U⟩:=d3 ((YtmjoaipkaddkbaaGreatDoor.tr l).length-1)
  have u:=tY h0
  have C:YtmjoaipkaddkbaaGreatDoor.co l ((YtmjoaipkaddkbaaGreatDoor.tr l).length-1)=gV l:=(fG _ _).symm
  rw[C]at B
  have L:(D:Rat)≠0:=by rw[ne_eq,Rat.natCast_eq_zero_iff];omega
  have w:y≠0:=fun h=>by
   rw[h]at B
   rcases Rat.mul_eq_zero.1 (B.trans rfl)with h|h
   ·exact u h
   ·exact L h
  refine⟨y.natAbs,by omega,by omega,fun q hq=> ?_⟩
  obtain⟨j,_,rfl⟩:=aAT hq
  obtain⟨x,E,I⟩:=d3 j
  refine⟨x*y.sign, ?_,by rw[bKJ,Int.natAbs_sign_of_ne_zero w];omega⟩
  have hs:((y.natAbs:Nat):Rat)=(y:Rat)*(y.sign:Rat):=by
   rw[←Rat.intCast_natCast,←Rat.intCast_mul,Rat.intCast_inj]
   rcases bNm w with hn|hn
   ·rw[bL5 hn];omega
   ·rw[bL3 hn];omega
  rw[hs,←B,aBD,Rat.intCast_mul,←E]
  have hc:=Rat.div_mul_cancel (a:=1) u
  generalize 1/gV l=Z at*
  generalize gV l=Y at*
  generalize (y.sign:Rat)=S
  generalize YtmjoaipkaddkbaaGreatDoor.co l j=X at*
  grind
def dV(a:List Rat):List Rat:=tr (mk (a.length-1) fun j=>co a (j+1)*(((j+1:Nat):Int):Rat))
theorem aDH(a:List Rat)(j:Nat):co (dV a) j=co a (j+1)*(((j+1:Nat):Int):Rat):=by
 rw[dV,fG,aCu]
 split
 ·rfl
 ·rw[iF (l:=a) (by omega),Rat.zero_mul]
theorem WD.der{k:Nat}{l:List Rat}(h:WD k l)(u:l.length<=1000):WD (k+10) (dV l):=by
 obtain⟨D,d1,d2,d3⟩:=h.co
 have H:=bL4 2 k 10
 refine⟨D,d1,by omega,fun q hq=> ?_⟩
 obtain⟨j,m,rfl⟩:=tZ (yJ hq)
 obtain⟨x,E,I⟩:=d3 (j+1)
 refine⟨x*((j+1:Nat):Int), ?_, ?_⟩
 ·rw[Rat.intCast_mul,←E];grind
 ·rw[bKJ,H]
  exact bLA I (by show(((j+1:Nat):Int)).natAbs<1024;omega)
theorem aBG(a:List Rat):(dV a).length<=a.length-1:=bJH (fN _) (by rw[iX];exact bJE _)
theorem NF.pder(a:List Rat):NF (dV a):= .tr _
def qE:Nat->List Rat->List Rat->List Rat
 |0,a,_=>a
 |f+1,a,b=>if b=[]then a else qE f b (bL (fH a b))
def gF(a b:List Rat):List Rat:=qE ((bL b).length+1) (bL a) (bL b)
theorem bJ1(g:Nat)(h:1<=g):g+2<=3^g:=by
 induction g with
 |zero=>omega
 | succ g ih=>
  rcases bLF g with h0|h0
  ·subst h0;decide
  ·have:=ih h0
   rw[bJX];omega
theorem aBR{a b:List Rat}{K N:Nat}(A:WD (K*3^(N-a.length)-1) a)(o:WD (K*3^(N-a.length)-1) b)(na:NF a)(nb:NF b)(d:b≠ [])(M:b.length<a.length)(V:a.length<=N)(O:1<=K):WD (K*3^(N-b.length)-1) (fH a b)/\WD (K*3^(N-b.length)-1) b/\K*3^(N-a.length)-1+(a.length-b.length)*(K*3^(N-a.length)-1+1)<=K*3^(N-1):=by
 have P:0<b.length:=bKz.2 d
 obtain⟨X,F⟩:∃X,X=K*3^(N-a.length):=⟨_,rfl⟩
 have Q:1<=X:=by rw[F];exact bKG O (bKt (by decide))
 rw[←F]at A o ⊢
 obtain⟨g,G⟩:∃g,g=a.length-b.length:=⟨_,rfl⟩
 have C:N-b.length=(N-a.length)+g:=by omega
 have R:K*3^(N-b.length)=X*3^g:=by rw[C,bL4,←bK1,←F]
 have t:=bK5 X (bJ1 g (by omega))
 have s:K*3^(N-b.length)<=K*3^(N-1):=bK5 K (bK2 (by decide) (by omega))
 rw[show X-1+1=X by omega,←G]
 have W:X*(g+2)=g*X+2*X:=by rw[bK4,bJR X g,bJR X 2]
 refine⟨?_,o.mono (by omega),by omega⟩
 have v:=bDK A o (by rw[nb.eq];exact d)
 rw[na.eq,nb.eq,show X-1+1=X by omega,show a.length+1-b.length=g+1 by omega]at v
 refine v.mono ?_
 have e4:(g+1)*X=g*X+X:=bKZ _ _
 omega
def sP(a:List Rat):List Rat:=bL (qC (bL a) (gF (bL a) (dV (bL a))))
theorem aLI(a:List Rat){c:Rat}(hc:c≠0):bL (eH a c)=bL a:=vU (NF.pmonic _) (NF.pmonic _) fun j=>by
 have u:gV (eH a c)=gV a*c:=by
  unfold gV
  have h1:∀l:List Rat,(tr (eH l c)).length<=(tr l).length:=fun l=>vN fun j m=>by rw[rX,←fG,iF m,Rat.zero_mul]
  have h2:(tr a).length<=(tr (eH a c)).length:=vN fun j m=>by
   have t:co (eH a c) j=0:=by rw[←fG,iF m]
   rw[rX]at t
   exact(Rat.mul_eq_zero.1 t).resolve_right hc
  rw[Nat.le_antisymm (h1 a) h2,fG,fG,rX]
 rw[aBD,aBD,rX,u]
 by_cases h0:gV a=0
 ·have:tr a=[]:=Classical.byContradiction fun h=>tY h h0
  rw[←fG,this,uF];grind
 ·have C:=Rat.div_mul_cancel (a:=1) h0
  have R:=Rat.div_mul_cancel (a:=1) (b:=gV a*c) (fun e=>(Rat.mul_eq_zero.1 e).elim h0 hc)
  generalize 1/(gV a*c)=Z at*
  generalize 1/gV a=Y at*
  generalize gV a=X at*
  grind
theorem aWC(a:List Rat)(c:Rat):dV (eH a c)=eH (dV a) c:=vU (NF.pder _) (mD _) fun j=>by
 rw[aDH,rX,rX,aDH];grind
theorem bFr(a:List Rat):dV (tr a)=dV a:=vU (NF.pder _) (NF.pder _) fun j=>by rw[aDH,aDH,fG]
theorem aY7(a:List Rat):bL (tr a)=bL a:=by unfold bL gV;rw[aGJ]
theorem aEQ(a:List Rat):bL (bL a)=bL a:=by
 by_cases h:tr a=[]
 ·have e:bL a=[]:=by unfold bL eH;rw[h];rfl
  rw[e];rfl
 ·have e:bL a=eH (tr a) (1/gV a):=rfl
  rw[e,aLI _ (aKh (tY h)),aY7,←e]
theorem aIa(a:List Rat)(h:tr a≠ []):gF (bL a) (dV (bL a))=gF a (dV a):=by
 have e:bL (dV (bL a))=bL (dV a):=by
  rw[show bL a=eH (tr a) (1/gV a)from rfl,aWC,aLI _ (aKh (tY h)),bFr]
 unfold gF
 rw[aEQ,e]
theorem aJ9{a:List Rat}(h:tr a≠ [])(G:gF a (dV a)=[1]):sP a=bL a:=by
 unfold sP
 rw[aIa a h,G,aIP,(NF.pmonic a).eq,aEQ]
def qJ:Nat->List Rat->List Rat->List (List Rat)
 |0,_,_=>[]
 |f+1,p,q=>if q=[]then []else q::qJ f q (eH (fH p q) ((-1:Int):Rat))
def iV(a:List Rat):List (List Rat):=if (tr a).length<=1 then []else sP a::qJ ((dV (sP a)).length+1) (sP a) (dV (sP a))
namespace Ev
section
variable {m:Nat}
def bP:EC Rat:=⟨cR,4,by decide,fun _=>rfl,aGx,fun _=>by simp only[cR,iO,List.all_cons,List.all_nil,aGU,aEa,bKr],9,fun _=>by simp only[cR,bT,cV,fK];omega⟩
def tP(l:List Rat):TV:=bP.t l
theorem aTy{l:List Rat}:jW PG 35 (tP l)=some (.int .i64 (l.length:Nat)):=aGj eR sR
theorem lF{l:List Rat}{j:Nat}(h:j<l.length):mI PG 35 (tP l) j=some (.pi (bP.row l) (j*4)):=aFr (E:=bP) eR kR sR h
theorem kY{l:List Rat}{j:Nat}{s:VS}(h:j<l.length):kP PG 78 s (.pi (bP.row l) (j*4))=some (tR (co l j)):=by
 have e:=bP.all h
 simp only[kP,qM,aR,if_true,sR]
 rw[show(4:Nat)=bP.sz from rfl,e]
 rfl
theorem aOY{l:List Rat}(h:0<l.length){s:VS}:kP PG 78 s (.pi (bP.row l) 0)=some (tR (co l 0)):=kY (j:=0) h
theorem aP3{r:bB}{l:List Rat}{lo B:Option bR7}:jB PG 35 r (tP l) lo B none=(eL r 0 lo).bind fun a=>(eL r l.length B).bind fun b=>if a<=b/\b<=l.length then some (tP ((l.drop a).take (b-a)))else none:=bAb (E:=bP) eR kR sR
theorem uC(l:List Rat):cQ (tP l):=bP.t_can l
theorem vZ(l:List Rat):cV (tP l)=1:=bP.t_siz l
theorem aKC{l:List Rat}:(tP l).one=true:=bP.t_one
theorem aOL{l:List Rat}:(tP l).cells=[tP l]:=bP.t_cells
theorem aTm{s:VS}{l:List Rat}:dJ s [tP l]=some (tP l,false):=tN (uC l) (by rw[vZ];decide)
theorem iM(l:List Rat):Can [tP l]:=Can.cons (uC l) Can.nil
theorem vS(l g:List Rat):Can [tP l,tP g]:=Can.cons (uC l) (Can.cons (uC g) Can.nil)
theorem aKj(l:List Rat)(q:Rat):Can [tP l,tR q]:=Can.cons (uC l) (Can.cons (yR q) Can.nil)
theorem jD(l:List Rat):bT [tP l]<=cL:=by simp only[bT,vZ];decide
theorem vY(l g:List Rat):bT [tP l,tP g]<=cL:=by simp only[bT,vZ];decide
theorem aKA(l:List Rat)(q:Rat):bT [tP l,tR q]<=cL:=by simp only[bT,vZ,vV];decide
theorem aJP{s:VS}{k len:Nat}{l:List Rat}(o:k<s.nxt)(p:s.ob k=⟨0,bP.row l⟩)(i:len=l.length)(hs:l.length<=10000):(dJ s [.ow k 0 len 4]).map (nX true)=some (tP l,false):=aQt (E:=bP) o p i rfl (bJH (Nat.add_le_add_right (bK8 9 hs) 1) (by decide))
theorem aSX{s:VS}{k len:Nat}{l l2:List Rat}(o:k<s.nxt)(p:s.ob k=⟨0,bP.row l⟩)(i:len=l.length)(h2:l2≠ [])(n1:l.length<=10000000)(u:l2.length<=10000000):gT PG 78 s (.ow k 0 len 4) (tP l2)=some (.ow s.nxt 0 (len+l2.length) 4,(s.set k ⟨2,[]⟩).new (bP.row (l++l2))):=aCd (E:=bP) xF sR aFG o p i rfl h2 n1 u
theorem aL3(q:Rat):bP.row [q]=cR q:=bKQ _
theorem aB9{x:List TV}:(bJL 0 x).flatten=[]:=rfl
theorem aFL{et:fP}{k:bR6}{z:Int}:bU et .eql (.int k z) (.int k ((0:Nat):Int))=some (.b (decide (z=0))):=by simp only[bU,dX,if_true];rfl
theorem aKW{j:Nat}:decide (j<0)=false:=ai (bKM j)
theorem aCK{x:List TV}:(bJL 1 x).flatten=x:=bKQ x
theorem fM.stepR{d s:VS}{v:TV}{l:List Rat}(h:fM bP d s v l)(q:Rat)(n1:l.length<=10000000):∃v' s',gT PG 78 (s.new [.b (decide (q.num<0)),tW (aO q.num.natAbs),.b (decide ((q.den:Int)<0)),tW (aO (q.den:Int).natAbs)]) v (.ow s.nxt 0 1 4)=some (v',s')/\fM bP d s' v' (l++[q]):=h.step q xF sR n1
theorem fM.appP{d s:VS}{v:TV}{l:List Rat}(h:fM bP d s v l)(l2:List Rat)(n1:l.length<=10000000)(u:l2.length<=10000000):∃v' s',gT PG 78 s v (tP l2)=some (v',s')/\fM bP d s' v' (l++l2):=h.app l2 xF sR n1 u
theorem aU:type_of%(ab @aKW (ab @aB9 (ab @aCK (ab @aFL (ab @aAr (ab @aFR (ab @aE8 (ab @kL (ab @qX (ab @aCi (ab @aTy (ab @aP3 (ab @aKC (ab @aOL (ab @aTm (ab @aUj (ab @aSH (@aOV)))))))))))))))))):=(ab @aKW (ab @aB9 (ab @aCK (ab @aFL (ab @aAr (ab @aFR (ab @aE8 (ab @kL (ab @qX (ab @aCi (ab @aTy (ab @aP3 (ab @aKC (ab @aOL (ab @aTm (ab @aUj (ab @aSH (@aOV))))))))))))))))))
def PS(k:Nat)(l:List Rat):Prop:=l.length<=1000/\∀q∈l,FR k q
theorem PS.co{k:Nat}{l:List Rat}(h:PS k l){j:Nat}(C:j<l.length):FR k (co l j):=h.2 _ (aGs C)
theorem bBy:bO PG 73 f73 [2,16] []=true:=by kernel_rfl
theorem aDP{l:List Rat}(h:PS 9000000 l):VX (m+6) 73 [tP l]=some (tP (tr l),false):=by
 refine jR rfl func73 bBy rfl ?_
 simp only[f73,N1,bC,bF,bH,bG,bE,zB,zG]
 simp (disch:=first|rfl|omega)only[S1,aN,aC,aE,aM,aJ,zB,aU]
 refine .loop (fun n e s=>s=dZ/\n<=l.length/\e 0=some (tP l)/\e 3=some (.int .i64 (n:Nat))/\tr (l.take n)=tr l) l.length ⟨rfl,bJE _, ?_, ?_,by simp⟩ (dB (bK9 h.1 (by decide))) ?_
 ·simp (disch:=first|rfl|omega)only[S1,zB]
 ·simp (disch:=first|rfl|omega)only[S1,zB]
 ·rintro n e s ⟨rfl,hn,e0,f,w⟩
  simp (disch:=first|rfl|omega)only[S1,aC,aE,aM,aJ,zB,f]
  refine sF (fun h1=> ?_) (fun h1=> ?_)
  ·have i:=h.1
   obtain⟨n,rfl⟩:∃j,n=j+1:=⟨n-1,by have:=ae h1;omega⟩
   have sg:=aJU (m:=m) (h.co (j:=n) (by omega))
   simp (disch:=first|rfl|omega)only[S1,aC,aE,aM,aJ,zB,aU,e0,f,h1,bKs,lF,kY,vJ 159 rfl,sg _]
   refine cM (fun h2=> ?_) (fun h2=> ?_)
   ·have y:=aFx.1 (ae h2)
    simp (disch:=first|rfl|omega)only[S1,aC,aE,aM,aJ,zB,e0,f,bKs]
    exact⟨n,by omega,by omega,rfl,by rw[←w,aLJ y]⟩
   ·have y:co l n≠0:=fun e=>af h2 (aFx.2 e)
    have c:(l.take (n+1)).length=n+1:=by rw[bJO];omega
    simp (disch:=first|rfl|omega)only[S1,aK,aD,zB,aU,e0,f,Nat.sub_zero,bJJ]
    rw[aSX (l:=[]) (len:=0) (by decide) rfl rfl (fun e=>by rw[e]at c;cases c) (by decide) (by omega)]
    simp (disch:=first|rfl|omega)only[S1,zB,reduceCtorEq]
    rw[aJP (l:=l.take (n+1)) (len:=(l.take (n+1)).length) (k:=1) (show 1<2 by decide) rfl rfl (by omega),←w,aLL (by omega) y]
  ·have A:n=0:=by have:=af h1;omega
   subst A
   simp (disch:=first|rfl|omega)only[S1,aK,aC,aE,aM,aJ,aD,zB,zF,zG,zH,aU,e0,f]
   rw[aRH xF rfl]
   simp (disch:=first|rfl|omega)only[S1,zB,reduceCtorEq]
   rw[aJP (l:=[]) (len:=0) (k:=0) (show 0<1 by decide) rfl rfl (by decide),←w]
   rfl
theorem aG8{l:List Rat}(h:PS 9000000 l):CC (VX (m+6)) 73 [tP l] (tP (tr l)):= .of (iM l) (jD l) (aDP h)
theorem bAd:bO PG 225 f225 [0] []=true:=by kernel_rfl
theorem bD7:VX (m+6) 225 []=some (tR 0,false):=by
 have z0:=aAd (m:=m) (z:=((0:Nat):Int)) (by decide) (by decide)
 refine bX rfl func225 bAd rfl ?_
 simp only[f225,N1,bC,bF,bH,bG,bE,zB,zG]
 simp (disch:=first|rfl|omega)only[S1,aC,aE,aM,aJ,zB,reduceCtorEq,zD,zG,zH,aU,vJ 72 rfl,z0 _]
 rfl
theorem aFQ:CC (VX (m+6)) 225 [] (tR 0):= .of Can.nil (by simp only[bT];decide) bD7
theorem bFZ:bO PG 227 f227 [4] []=true:=by kernel_rfl
theorem aTi(l:List Rat)(z:Int):Can [tP l,.int .i64 z]:=Can.cons (uC l) (Can.cons (cQ.int _ _) Can.nil)
theorem aTH(l:List Rat)(z:Int):bT [tP l,.int .i64 z]<=cL:=by simp only[bT,vZ,cV];decide
theorem bI9{l:List Rat}{j:Nat}(_:l.length<=1000)(_:j<=1000):VX (m+7) 227 [tP l,.int .i64 (j:Nat)]=some (tR (co l j),false):=by
 have z0:=aFQ (m:=m)
 refine bX rfl func227 bFZ rfl ?_
 simp only[f227,N1,bC,bF,bH,bG,bE,zB,zG]
 simp (disch:=first|rfl|omega)only[S1,aN,aC,aE,aM,aJ,zB,zD,aU]
 refine cM (fun h1=> ?_) (fun h1=> ?_)
 ·have:=ae h1
  simp (disch:=first|rfl|omega)only[S1,zB,reduceCtorEq,zD,zG,zH,aU,vJ 225 rfl,z0 _]
  rw[iF (by omega)]
 ·have:=af h1
  simp (disch:=first|rfl|omega)only[S1,zB,reduceCtorEq,zD,zG,zH,aU,lF,kY]
theorem aU4{l:List Rat}{j:Nat}(h:l.length<=1000)(hj:j<=1000):CC (VX (m+7)) 227 [tP l,.int .i64 (j:Nat)] (tR (co l j)):= .of (aTi l j) (aTH l j) (bI9 h hj)
theorem FR.zero{k:Nat}(h:1<=k):FR k 0:=⟨aX.le (aX.one h) (by decide),aX.one h⟩
theorem coR{k:Nat}{l:List Rat}(h:PS k l)(t:1<=k)(j:Nat):FR k (co l j):=by
 rcases bJS j l.length with hj|hj
 ·exact h.co hj
 ·rw[iF hj];exact .zero t
theorem FR.add{j k:Nat}{a b:Rat}(h:FR j a)(h':FR j b)(e:2*j+1<=k):FR k (a+b):=by
 obtain⟨h1,h2⟩:=aMQ a b
 exact⟨aX.le' (j:=2*j+1) (aX.add (aX.mulE (l:=2*j) h.1 h'.2 (by omega)) (aX.mulE (l:=2*j) h'.1 h.2 (by omega))) h2 e,aX.le' (j:=2*j) (aX.mulE h.2 h'.2 (by omega)) h1 (by omega)⟩
theorem FR.mul{j k:Nat}{a b:Rat}(h:FR j a)(h':FR j b)(e:2*j<=k):FR k (a*b):=by
 obtain⟨h1,h2⟩:=aZa a b
 exact⟨aX.le' (j:=2*j) (aX.mulE h.1 h'.1 (by omega)) h2 e,aX.le' (j:=2*j) (aX.mulE h.2 h'.2 (by omega)) h1 e⟩
theorem bCX:bO PG 154 f154 [4,16] []=true:=by kernel_rfl
theorem bHD{l c:List Rat}(h:PS 74900 l)(h':PS 74900 c):VX (m+11) 154 [tP l,tP c]=some (tP (tr (mk (max l.length c.length) fun j=>co l j+co c j)),false):=by
 refine jR rfl func154 bCX rfl ?_
 simp only[f154,N1,bC,bF,bH,bG,bE,zB,zG]
 simp (disch:=first|rfl|omega)only[S1,aC,aE,aM,aJ,zB,zD]
 have u:=h.1
 have i:=h'.1
 refine .up (fun k e s=>∃v,e 0=some (tP l)/\e 1=some (tP c)/\e 5=some v/\e 6=some (.int .i64 (k:Nat))/\fV bP s v (mk k fun j=>co l j+co c j)) (max l.length c.length) ?_ (dB (by omega)) ?_
 ·refine⟨.nil, ?_, ?_, ?_, ?_,.nil _⟩
  ·simp (disch:=first|rfl|omega)only[S1,zB]
  ·simp (disch:=first|rfl|omega)only[S1,zB]
  ·simp (disch:=first|rfl|omega)only[S1,zB]
  ·simp (disch:=first|rfl|omega)only[S1,zB]
 ·rintro k e s t ⟨v,e0,n,o,p,r⟩
  by_cases hc:k<max l.length c.length
  ·have c1:=aU4 (m:=m+3) (l:=l) (j:=k) u (by omega)
   have c2:=aU4 (m:=m+3) (l:=c) (j:=k) i (by omega)
   have c3:=aKD (m:=m) (a:=co l k) (b:=co c k) (coR h (by decide) k) (coR h' (by decide) k)
   obtain⟨v',s',ea,g, -⟩:=r.step (co l k+co c k) xF sR (by rw[iX];omega)
   have ea:=(show gT PG 78 (s.new [.b (decide ((co l k+co c k).num<0)),tW (aO (co l k+co c k).num.natAbs),.b (decide (((co l k+co c k).den:Int)<0)),tW (aO ((co l k+co c k).den:Int).natAbs)]) v (.ow s.nxt 0 1 4)=some (v',s')from ea)
   have d:decide (k<l.length)=true\/decide (k<l.length)=false/\decide (k<c.length)=true:=by
    by_cases h1:k<l.length
    ·exact .inl (ak h1)
    ·exact .inr ⟨ai h1,ak (by omega)⟩
   rcases d with h1|⟨h1,h2⟩
   ·simp (disch:=first|rfl|omega)only[S1,aK,aN,aC,aE,aM,aJ,aD,zB,zD,zE,zH,aU,e0,n,o,p,h1,vJ 227 rfl,c1 _,c2 _,vJ 226 rfl,c3 _,ea]
    exact⟨hc,v',rfl,by rw[aBS];exact g⟩
   ·simp (disch:=first|rfl|omega)only[S1,aK,aN,aC,aE,aM,aJ,aD,zB,zD,zE,zH,aU,e0,n,o,p,h1,h2,vJ 227 rfl,c1 _,c2 _,vJ 226 rfl,c3 _,ea]
    exact⟨hc,v',rfl,by rw[aBS];exact g⟩
  ·have h1:decide (k<l.length)=false:=ai (by omega)
   have h2:decide (k<c.length)=false:=ai (by omega)
   have ek:k=max l.length c.length:=by omega
   rw[ek]at r
   have w:PS 9000000 (mk (max l.length c.length) fun j=>co l j+co c j):=⟨by rw[iX];omega,fun q hq=>by
    obtain⟨j,_,rfl⟩:=tZ hq
    exact FR.add (coR h (by decide) j) (coR h' (by decide) j) (by decide)⟩
   obtain⟨s1,A,x,y, -, -⟩:=r.call (f:=73) Can.nil (by decide) (by rw[iX];show _*9<=_;omega) (aDP (m:=m+4) w)
   simp (disch:=first|rfl|omega)only[S1,aN,aC,aE,aM,aJ,zB,reduceCtorEq,aU,e0,n,o,p,h1,h2,vJ 73 rfl,y]
theorem aKq{l c:List Rat}(h:PS 74900 l)(h':PS 74900 c):CC (VX (m+11)) 154 [tP l,tP c] (tP (tr (mk (max l.length c.length) fun j=>co l j+co c j))):= .of (vS l c) (vY l c) (bHD h h')
theorem aZR:bO PG 151 f151 [4] []=true:=by kernel_rfl
theorem bCf{l:List Rat}{c:Rat}(h:PS 74900 l)(h':FR 74900 c):VX (m+11) 151 [tP l,tR c]=some (tP (eH l c),false):=by
 refine jR rfl func151 aZR rfl ?_
 simp only[f151,N1,bC,bF,bH,bG,bE,zB,zG]
 simp (disch:=first|rfl|omega)only[S1,aC,aE,aM,aJ,zB,zD,aU]
 have C:=h.1
 obtain⟨p,i⟩:∃p,p=dZ.new [.b (decide (c.num<0)),tW (aO c.num.natAbs),.b (decide ((c.den:Int)<0)),tW (aO (c.den:Int).natAbs)]:=⟨_,rfl⟩
 have D:p.ob 0=⟨0,[.b (decide (c.num<0)),tW (aO c.num.natAbs),.b (decide ((c.den:Int)<0)),tW (aO (c.den:Int).natAbs)]⟩:=by rw[i];rfl
 have G:p.nxt=1:=by rw[i];rfl
 rw[←i]
 refine .up (fun k e s=>∃v,e 0=some (tP l)/\e 3=some (.po 0 0)/\e 5=some v/\e 6=some (.int .i64 (k:Nat))/\fM bP p s v (mk k fun j=>co l j*c)) l.length ?_ (dB (by omega)) ?_
 ·refine⟨.nil, ?_, ?_, ?_, ?_,.nil _⟩<;>simp (disch:=first|rfl|omega)only[S1,zB]
 ·rintro k e s u ⟨v,e0,A,r,t,o⟩
  have sb:=(o.ob 0 (by omega)).trans D
  have sn:0<s.nxt:=by have:=o.nx;omega
  by_cases hc:k<l.length
  ·have h1:decide (k<l.length)=true:=ak hc
   have c3:=aGy (m:=m) (a:=co l k) (b:=c) (h.co hc) h'
   obtain⟨v',s',ea,g⟩:=o.stepR (co l k*c) (by rw[iX];omega)
   simp (disch:=first|rfl|omega)only[S1,aK,aN,aC,aE,aM,aJ,aD,zB,reduceCtorEq,zD,zE,zH,aU,e0,A,r,t,h1,sb,sn,lF,kY,c3 _,ea]
   exact⟨hc,v',rfl,by rw[aBS];exact g⟩
  ·have h1:decide (k<l.length)=false:=ai hc
   obtain rfl:k=l.length:=by omega
   have E:PS 9000000 (mk l.length fun j=>co l j*c):=⟨by rw[iX];omega,fun q hq=>by
    obtain⟨j,w,rfl⟩:=tZ hq
    exact(h.co w).mul h' (by decide)⟩
   obtain⟨s1,F,x,y, -, -⟩:=o.bld.call (f:=73) Can.nil (by decide) (by rw[iX];show _*9<=_;omega) (aDP (m:=m+4) E)
   simp (disch:=first|rfl|omega)only[S1,aN,zB,reduceCtorEq,aU,e0,r,t,h1,vJ 73 rfl,y]
   rfl
theorem aFm{l:List Rat}{c:Rat}(h:PS 74900 l)(h':FR 74900 c):CC (VX (m+11)) 151 [tP l,tR c] (tP (eH l c)):= .of (aKj l c) (aKA l c) (bCf h h')
theorem aJV(l d:List Rat):tr (mk (max l.length d.length) fun j=>co l j+co d j)=aBf l d:=rfl
theorem FR.neg1:FR 74900 (((-1:Int):Int):Rat):=⟨aX.le (aX.one (by decide)) (by decide),aX.le (aX.one (by decide)) (by decide)⟩
theorem bCh(l d:List Rat):aBf l (eH d ((-1:Int):Rat))=aCJ l d:=vU (mD _) (mD _) fun j=>by
 rw[aJG,aRh,rX]
 have:((-1:Int):Rat)= -1:=rfl
 rw[this]
 grind
theorem aF2(l:List Rat)(c:Rat):(eH l c).length<=l.length:=bJH (fN _) (by rw[iX];exact bJE _)
theorem PS.neg{k:Nat}{l:List Rat}(h:PS k l):PS k (eH l ((-1:Int):Rat)):=⟨bJH (aF2 _ _) h.1,fun q hq=>by
 obtain⟨j,w,rfl⟩:=tZ (yJ hq)
 have e:YtmjoaipkaddkbaaGreatDoor.co l j*((-1:Int):Rat)= -YtmjoaipkaddkbaaGreatDoor.co l j:=by
  have:((-1:Int):Rat)= -1:=rfl
  rw[this];grind
 rw[e]
 have:=h.co w
 exact⟨by rw[show(-YtmjoaipkaddkbaaGreatDoor.co l j).num= -(YtmjoaipkaddkbaaGreatDoor.co l j).num from rfl,bLJ];exact this.1,this.2⟩⟩
theorem bDG:bO PG 155 f155 [4] []=true:=by kernel_rfl
theorem bHn{l d:List Rat}(h:PS 74900 l)(h':PS 74900 d):VX (m+12) 155 [tP l,tP d]=some (tP (aCJ l d),false):=by
 have f1:=aAd (m:=m+6) (z:= -1) (by decide) (by decide)
 have f2:=aFm (m:=m) h' FR.neg1
 have f3:=aKq (m:=m) h h'.neg
 rw[aJV,bCh]at f3
 refine jR rfl func155 bDG rfl ?_
 simp only[f155,N1,bC,bF,bH,bG,bE,zB,zG]
 simp (disch:=first|rfl|omega)only[S1,aC,aE,aM,aJ,zB,reduceCtorEq,zD,aU,vJ 72 rfl,f1 _,vJ 151 rfl,f2 _,vJ 154 rfl,f3 _]
theorem bGd{l d:List Rat}(h:PS 74900 l)(h':PS 74900 d):CC (VX (m+12)) 155 [tP l,tP d] (tP (aCJ l d)):= .of (vS l d) (vY l d) (bHn h h')
theorem aXB:bO PG 231 f231 [2] []=true:=by kernel_rfl
theorem aYy{l:List Rat}(h:PS 9000000 l):VX (m+7) 231 [tP l]=some (.int .i64 (iz (tr l).length),false):=by
 have f1:=aG8 (m:=m) h
 have C:=bJH (fN l) h.1
 refine bX rfl func231 aXB rfl ?_
 simp only[f231,N1,bC,bF,bH,bG,bE,zB,zG]
 simp (disch:=first|rfl|omega)only[S1,aN,aC,aE,aM,aJ,zB,reduceCtorEq,aU,vJ 73 rfl,f1 _]
theorem aY6{l:List Rat}(h:PS 9000000 l):CC (VX (m+7)) 231 [tP l] (.int .i64 (iz (tr l).length)):= .of (iM l) (jD l) (aYy h)
theorem PS.shift{k n:Nat}{l:List Rat}(h:PS k l)(u:1<=k)(hn:n+l.length<=1000):PS k (bJL n 0++l):=⟨by rw[bJW,bKu];exact hn,fun q hq=>by
 rcases List.mem_append.1 hq with hq|hq
 ·rw[(List.mem_replicate.1 hq).2];exact .zero u
 ·exact h.2 q hq⟩
theorem aYi:bO PG 153 f153 [4] []=true:=by kernel_rfl
theorem aQ6{l:List Rat}{n:Nat}(h:PS 9000000 l)(hn:n+l.length<=1000):VX (m+7) 153 [tP l,.int .i64 (n:Nat)]=some (tP (kE l n),false):=by
 refine jR rfl func153 aYi rfl ?_
 simp only[f153,N1,bC,bF,bH,bG,bE,zB,zG]
 simp (disch:=first|rfl|omega)only[S1,aC,aE,aM,aJ,zB,zD]
 have c3:=aFQ (m:=m)
 refine .up (fun k e s=>∃v,e 0=some (tP l)/\e 1=some (.int .i64 (n:Nat))/\e 5=some v/\e 6=some (.int .i64 (k:Nat))/\fM bP dZ s v (bJL k 0)) n ?_ (dB (by omega)) ?_
 ·refine⟨.nil, ?_, ?_, ?_, ?_,.nil _⟩<;>simp (disch:=first|rfl|omega)only[S1,zB]
 ·rintro k e s u ⟨v,e0,B,r,t,o⟩
  by_cases hc:k<n
  ·have h1:decide (k<n)=true:=ak hc
   obtain⟨v',s',ea,g⟩:=o.stepR 0 (by rw[bKu];omega)
   simp (disch:=first|rfl|omega)only[S1,aK,aC,aE,aM,aJ,aD,zB,zD,zE,zH,aU,e0,B,r,t,h1,vJ 225 rfl,c3 _,ea]
   exact⟨hc,v',rfl,by rw[List.replicate_succ'];exact g⟩
  ·have h1:decide (k<n)=false:=ai hc
   obtain rfl:k=n:=by omega
   obtain⟨v',s',ea,g⟩:=o.appP l (by rw[bKu];omega) (by omega)
   obtain⟨s1,F,x,y, -, -⟩:=g.bld.call (f:=73) Can.nil (by decide) (by rw[bJW,bKu];show _*9<=_;omega) (aDP (m:=m) (h.shift (by decide) hn))
   simp (disch:=first|rfl|omega)only[S1,aK,zB,reduceCtorEq,aU,e0,B,r,t,h1,ea,vJ 73 rfl,y]
   rfl
theorem bA4{l:List Rat}{n:Nat}(h:PS 9000000 l)(hn:n+l.length<=1000):CC (VX (m+7)) 153 [tP l,.int .i64 (n:Nat)] (tP (kE l n)):= .of (aTi l n) (aTH l n) (aQ6 h hn)
theorem aLR{orc:cP}{f:FuncId}{ts:List TV}{s:VS}:dC orc f (.nil::ts) s=dC orc f (tP []::ts) s:=by
 unfold dC
 show((cY 99999999 s ts).map _).bind _=((cY 99999999 s ts).map _).bind _
 cases cY 99999999 s ts<;>rfl
theorem aM4{orc:cP}{f:FuncId}{ts:List TV}{s:VS}:fF orc f (.nil::ts) s=fF orc f (tP []::ts) s:=by
 unfold fF
 show((cY 99999999 s ts).map _).bind _=((cY 99999999 s ts).map _).bind _
 cases cY 99999999 s ts<;>rfl
theorem bDW:bO PG 156 f156 [4] []=true:=by kernel_rfl
theorem bHx{a b:List Rat}(d:PS 74900 a)(g:PS 74900 b)(r:a.length+b.length<=1000)(o:∀k,k<=b.length->PS 74900 (qG a b k))(p:∀k,k<b.length->PS 74900 (kE (eH a (co b k)) k)):VX (m+12) 156 [tP a,tP b]=some (tP (qG a b b.length),false):=by
 refine jR rfl func156 bDW rfl ?_
 simp only[f156,N1,bC,bF,bH,bG,bE,zB,zG]
 simp (disch:=first|rfl|omega)only[S1,aC,aE,aM,aJ,zB,zD]
 refine .up (fun k e s=>∃v,s=dZ/\e 0=some (tP a)/\e 1=some (tP b)/\e 5=some v/\e 6=some (.int .i64 (k:Nat))/\(v=tP (qG a b k)\/v= .nil/\k=0)) b.length ?_ (dB (by omega)) ?_
 ·refine⟨.nil,rfl, ?_, ?_, ?_, ?_,.inr ⟨rfl,rfl⟩⟩<;>simp (disch:=first|rfl|omega)only[S1,zB]
 ·rintro k e s x ⟨v,rfl,e0,h,i,l,t⟩
  by_cases hc:k<b.length
  ·have h1:decide (k<b.length)=true:=ak hc
   have c1:=aFm (m:=m) (c:=co b k) d (g.co hc)
   have u:PS 9000000 (eH a (co b k)):=⟨bJH (aF2 _ _) d.1,fun q hq=>by
    obtain⟨j,w,rfl⟩:=tZ (yJ hq)
    exact(d.co w).mul (g.co hc) (by decide)⟩
   have c2:=bA4 (m:=m+4) (n:=k) u (by have:=aF2 a (co b k);omega)
   have c3:=aKq (m:=m) (o k (by omega)) (p k hc)
   rw[aJV]at c3
   rcases t with rfl|⟨rfl,rfl⟩
   ·simp (disch:=first|rfl|omega)only[S1,aN,aC,aE,aM,aJ,zB,reduceCtorEq,aU,e0,h,i,l,h1,lF,kY,vJ 151 rfl,c1 _,vJ 153 rfl,c2 _,vJ 154 rfl,c3 _]
    exact⟨hc,_,rfl,.inl rfl⟩
   ·have c0:CC (VX (m+11)) 154 [tP [],tP (kE (eH a (co b 0)) 0)] (tP (qG a b 1)):=c3
    simp (disch:=first|rfl|omega)only[S1,aN,aC,aE,aM,aJ,zB,reduceCtorEq,zE,aU,e0,h,i,l,h1,lF,vJ 151 rfl,c1 _,vJ 153 rfl,c2 _,vJ 154 rfl,aOY hc,aM4,c0 _]
    exact⟨hc,_,rfl,.inl rfl⟩
  ·have h1:decide (k<b.length)=false:=ai hc
   obtain rfl:k=b.length:=by omega
   rcases t with rfl|⟨rfl,h0⟩
   ·simp (disch:=first|rfl|omega)only[S1,aN,zB,reduceCtorEq,aU,h,i,l,h1]
   ·simp (disch:=first|rfl|omega)only[S1,aN,zB,reduceCtorEq,aU,h,i,l,h1]
    rw[h0];rfl
theorem bFW{a b:List Rat}(d:PS 74900 a)(g:PS 74900 b)(r:a.length+b.length<=1000)(o:∀k,k<=b.length->PS 74900 (qG a b k))(p:∀k,k<b.length->PS 74900 (kE (eH a (co b k)) k)):CC (VX (m+12)) 156 [tP a,tP b] (tP (qG a b b.length)):= .of (vS a b) (vY a b) (bHx d g r o p)
theorem bCy:bO PG 152 f152 [4] []=true:=by kernel_rfl
theorem bFm{a b:Rat}(h:FR 74900 a)(h':FR 74900 b)(h0:b≠0):VX (m+12) 152 [tR a,tR b]=some (tR (a/b),false):=by
 have c1:=bHQ (m:=m) h h' h0
 refine bX rfl func152 bCy rfl ?_
 simp only[f152,N1,bC,bF,bH,bG,bE,zB,zG]
 simp (disch:=first|rfl|omega)only[S1,zB,reduceCtorEq,zD,zG,zH,aU,vJ 224 rfl,c1 _]
theorem aQg{a b:Rat}(h:FR 74900 a)(h':FR 74900 b)(h0:b≠0):CC (VX (m+12)) 152 [tR a,tR b] (tR (a/b)):= .of (pK a b) (sH a b) (bFm h h' h0)
theorem _root_.Go.Proofs.YtmjoaipkaddkbaaGreatDoor.WD.ps{K k:Nat}{l:List Rat}(h:WD K l)(X:K<=32*k)(Y:l.length<=1000):PS k l:=⟨Y,fun q hq=>by
 obtain⟨h1,h2⟩:=h.parts hq
 have e:2^K<=4294967296^k:=by
  rw[show(4294967296:Nat)=2^32 from rfl,←Nat.pow_mul]
  exact bK2 (by decide) X
 exact⟨bJK h2 e,bJK h1 e⟩⟩
theorem bDX{s:VS}{l i:List Rat}:dJ s [tP l,tP i]=some (.tp [tP l,tP i],false):=aBQ (vS l i) (vY l i)
theorem bEL{s:VS}{i:List Rat}:dJ s [.nil,tP i]=some (.tp [tP [],tP i],false):=by
 have h:cY cL s [.nil,tP i]=some ([.nil,tP i],s):=by
  show(cY 99999999 s [tP i]).map _=_
  rw[(nC 99999999).2 (iM i).1 (by simp only[bT,vZ];decide)]
  rfl
 show(cY cL s [.nil,tP i]).map _=_
 rw[h]
 show some (TV.tp (cG [.nil,tP i]),false)=_
 simp only[cG,(uC i).2]
 rfl
theorem FR.div{j k:Nat}{a b:Rat}(h:FR j a)(h':FR j b)(h0:b≠0)(e:2*j<=k):FR k (a/b):=by rw[Rat.div_def];exact h.mul (h'.inv h0) e
structure DvI(b:List Rat)(ka kb N:Nat)(a:List Rat×List Rat)(f:Nat)(q r:List Rat):Prop where
 res:mX b f q r=a
 fu:r.length<f
 nf:NF r
 nq:NF q
 lq:q.length<=N
 fq:∀j,FR 37000 (co q j)
 wd:∃t,WD (ka+t*(kb+1)) r/\t+r.length<=N
 z:∀j,j+b.length<=r.length->co q j=0
theorem DvI.ps{b:List Rat}{ka kb N:Nat}{a:List Rat×List Rat}{f:Nat}{q r:List Rat}(h:DvI b ka kb N a f q r)(hN:N<=400)(T:b.length<=r.length)(w:ka+(N-b.length)*(kb+1)<=592000):PS 18500 r/\PS 74900 q:=by
 obtain⟨t,h1,h2⟩:=h.wd
 have:=bK8 (kb+1) (show t<=N-b.length by omega)
 refine⟨h1.ps (by omega) (by omega),by have:=h.lq;omega,fun x hx=> ?_⟩
 obtain⟨j,_,rfl⟩:=aAT hx
 exact(h.fq j).mono (by decide)
theorem DvI.step{b:List Rat}{ka kb N:Nat}{a:List Rat×List Rat}{f:Nat}{q r:List Rat}(h:DvI b ka kb N a f q r)(y:WD kb b)(hn:NF b)(d:b≠ [])(T:b.length<=r.length)(fc:FR 37000 (co r (r.length-1)/co b (b.length-1))):
  ∃G,DvI b ka kb N a G (tr (wD q (r.length-b.length) (co r (r.length-1)/co b (b.length-1)))) (tr (oJ r b (r.length-b.length) (co r (r.length-1)/co b (b.length-1)))):=by
 have hs:=aD9 hn d T
 have O:0<b.length:=bKz.2 d
 obtain⟨f,rfl⟩:∃k,f=k+1:=⟨f-1,by have:=h.fu;omega⟩
 obtain⟨t,h1,h2⟩:=h.wd
 have Z:co q (r.length-b.length)=0:=h.z _ (by omega)
 refine⟨f, ?_, ?_,.tr _,.tr _, ?_,fun j=> ?_,⟨t+1, ?_,by omega⟩,fun j U=> ?_⟩
 ·have:=h.res
  rw[mX,if_neg (by omega)]at this
  exact this
 ·have:=h.fu;omega
 ·have:=h.lq
  refine aFJ (.tr _) fun j U=> ?_
  rw[fG,aAu,if_neg (by omega),iF (by omega)]
 ·rw[fG,aAu]
  split
  ·next e=>rw[e,Z,Rat.zero_add];exact fc
  ·exact h.fq j
 ·have:=(h1.step y (hn d) (r.length-b.length)).tr
  rw[show ka+(t+1)*(kb+1)=ka+t*(kb+1)+kb+1 by rw[bKZ];omega]
  exact this
 ·rw[fG,aAu,if_neg (by omega)]
  exact h.z j (by omega)
theorem aWS:bO PG 70 f70 [5,4,18] []=true:=by kernel_rfl
theorem aXZ{a b:List Rat}{ka kb:Nat}(H:WD ka a)(y:WD kb b)(A:a.length<=400)(B:b.length<=400)(d:tr b≠ [])(w:ka+((tr a).length-(tr b).length)*(kb+1)<=592000)(C:kb<=592000):VX (m+14) 70 [tP a,tP b]=some (.tp [tP (qC a b),tP (fH a b)],false):=by
 have f1:=aG8 (m:=m+7) (l:=a) (H.ps (by omega) (by omega))
 have f2:=aG8 (m:=m+7) (l:=b) (y.ps (by omega) (by omega))
 refine jR rfl func70 aWS rfl ?_
 simp only[f70,N1,bC,bF,bH,bG,bE,zB,zG]
 simp (disch:=first|rfl|omega)only[S1,aC,aE,aM,aJ,zB,zD,vJ 73 rfl,f1 _,f2 _]
 have ntb:NF (tr b):= .tr b
 have wtb:=y.tr
 have O:0<(tr b).length:=bKz.2 d
 have a':=fN b
 have b':=fN a
 have pb:PS 18500 (tr b):=wtb.ps (by omega) (by omega)
 refine .loop (fun n e s=>∃q r v f,e 1=some (tP (tr b))/\e 6=some (tP r)/\e 7=some v/\(v=tP q\/v= .nil/\q=[])/\DvI (tr b) ka kb (tr a).length (zW a b) f q r/\n=r.length) (tr a).length ?_ (dB (by omega)) ?_
 ·refine⟨[],tr a,.nil,(tr a).length+1, ?_, ?_, ?_,.inr ⟨rfl,rfl⟩,⟨rfl,bJT _,.tr a,.nil,bJJ _,fun j=>by rw[uF];exact .zero (by decide),⟨0,by rw[Nat.zero_mul];exact H.tr,by omega⟩,fun j _=>uF j⟩,rfl⟩<;>simp (disch:=first|rfl|omega)only[S1,zB]
 ·rintro n e s ⟨q,r,v,f,I,J,L,V,D,rfl⟩
  have c':r.length<=400:=by obtain⟨t,_,h⟩:=D.wd;omega
  by_cases hc:(tr b).length<=r.length
  ·obtain⟨pr,pq⟩:=D.ps (by omega) hc w
   have d':=pr.1
   have h1:decide ((tr b).length<=r.length)=true:=ak hc
   have E:co (tr b) ((tr b).length-1)≠0:=ntb d
   have g1:FR 18500 (co r (r.length-1)):=pr.co (by omega)
   have g2:FR 18500 (co (tr b) ((tr b).length-1)):=pb.co (by omega)
   have c1:=aQg (m:=m+1) (g1.mono (by decide)) (g2.mono (by decide)) E
   have fc:=g1.div g2 E (k:=37000) (by decide)
   obtain⟨G,o⟩:=D.step wtb ntb d hc fc
   have e':=D.lq
   have g:=aD9 ntb d hc
   obtain⟨c,P⟩:∃c,c=co r (r.length-1)/co (tr b) ((tr b).length-1):=⟨_,rfl⟩
   obtain⟨n,u⟩:∃n,n=r.length-(tr b).length:=⟨_,rfl⟩
   rw[←P]at c1 fc o g
   rw[←u]at o g
   have pc:PS 9000000 [c]:=⟨(show(1:Nat)<=1000 by decide),fun q hq=>by rw[List.mem_singleton.1 hq];exact fc.mono (by decide)⟩
   have ht:(kE [c] n).length<=n+1:=aFJ (l:=kE [c] n) (.tr _) fun j U=>by rw[aDG,if_neg (by omega)]
   have pt:PS 37000 (kE [c] n):=⟨by omega,fun q hq=>by
    obtain⟨j,_,rfl⟩:=aAT hq
    rw[aDG];split
    ·exact fc
    ·exact .zero (by decide)⟩
   have F:∀k,FR 18500 (co (tr b) k):=coR pb (by decide)
   have W:∀k,k<=(tr b).length->PS 74900 (qG (kE [c] n) (tr b) k):=fun k w=>⟨by have:=bDA (tr b) c n k;omega,fun q hq=>by
    obtain⟨j,_,rfl⟩:=aAT hq
    rw[aGn];split
    ·exact fc.mul ((F _).mono (by decide)) (by decide)
    ·exact .zero (by decide)⟩
   have hT:∀k,k<(tr b).length->PS 74900 (kE (eH (kE [c] n) (co (tr b) k)) k):=fun k w=>by
    have l1:(eH (kE [c] n) (co (tr b) k)).length<=n+1:=bJH (aF2 _ _) ht
    refine⟨bJH (fN _) (by rw[bJW,bKu];omega),fun q hq=> ?_⟩
    obtain⟨j,_,rfl⟩:=aAT hq
    rw[aIg];split
    ·rw[rX,aDG];split
     ·exact fc.mul ((F _).mono (by decide)) (by decide)
     ·rw[Rat.zero_mul];exact .zero (by decide)
    ·exact .zero (by decide)
   have c3:=aKq (m:=m+2) pq ⟨pt.1,fun q hq=>(pt.2 q hq).mono (by decide)⟩
   rw[aJV,aXp]at c3
   have c4:=bFW (m:=m+1) (a:=kE [c] n) (b:=tr b) ⟨pt.1,fun q hq=>(pt.2 q hq).mono (by decide)⟩ ⟨pb.1,fun q hq=>(pb.2 q hq).mono (by decide)⟩ (by omega) W hT
   have c5:=bGd (m:=m+1) (l:=r) ⟨pr.1,fun q hq=>(pr.2 q hq).mono (by decide)⟩ (W _ (bJE _))
   rw[aYI]at c5
   have Q:fV bP (s.new (cR c)) (.ow s.nxt 0 1 4) [c]:= .inr ⟨s.nxt,rfl,bJT _,by rw[aL3];exact if_pos rfl⟩
   obtain⟨s1,s2,M,q2, -, -⟩:=Q.call (f:=153) (ts:=[.int .i64 (n:Nat)]) (Can.cons (cQ.int _ _) Can.nil) (by simp only[bT,cV];decide) (show 1*9<=90000000 by decide) (aQ6 (m:=m+6) pc (by show n+1<=1000;omega))
   have M:=(show dC (VX (m+13)) _ [.ow s.nxt 0 1 4,.int .i64 (n:Nat)] (s.new [.b (decide (c.num<0)),tW (aO c.num.natAbs),.b (decide ((c.den:Int)<0)),tW (aO (c.den:Int).natAbs)])=_ from M)
   rcases V with rfl|⟨rfl,rfl⟩
   ·simp (disch:=first|rfl|omega)only[S1,aN,aC,aE,aM,aJ,aD,zB,zD,zE,zH,aU,I,J,L,h1,lF,kY,c1 _,←u,M,vJ 154 rfl,c3 _,vJ 156 rfl,c4 _,vJ 155 rfl,c5 _]
    exact⟨_,g,tr (wD q n c),tr (oJ r (tr b) n c),_,G,rfl,rfl,.inl rfl,o,rfl⟩
   ·simp (disch:=first|rfl|omega)only[S1,aN,aC,aE,aM,aJ,aD,zB,zD,zE,zH,aU,I,J,L,h1,lF,kY,c1 _,←u,M,aM4,vJ 154 rfl,c3 _,vJ 156 rfl,c4 _,vJ 155 rfl,c5 _]
    exact⟨_,g,tr (wD [] n c),tr (oJ r (tr b) n c),_,G,rfl,rfl,.inl rfl,o,rfl⟩
  ·have h1:decide ((tr b).length<=r.length)=false:=ai hc
   have p:zW a b=(q,r):=by
    rw[←D.res]
    cases f with
    |zero=>rfl
    |succ f=>rw[mX,if_pos (by omega)]
   have R:qC a b=q:=by rw[qC,p]
   have S:fH a b=r:=by rw[fH,p]
   rw[R,S]
   rcases V with rfl|⟨rfl,rfl⟩
   ·simp (disch:=first|rfl|omega)only[S1,aN,zB,reduceCtorEq,aU,I,J,L,h1,bDX]
   ·simp (disch:=first|rfl|omega)only[S1,aN,zB,reduceCtorEq,aU,I,J,L,h1,bEL]
theorem aId{a b:List Rat}{ka kb:Nat}(H:WD ka a)(y:WD kb b)(A:a.length<=400)(B:b.length<=400)(d:tr b≠ [])(w:ka+((tr a).length-(tr b).length)*(kb+1)<=592000)(C:kb<=592000):CC (VX (m+14)) 70 [tP a,tP b] (.tp [tP (qC a b),tP (fH a b)]):= .of (vS a b) (vY a b) (aXZ H y A B d w C)
end
end Ev
end Go.Proofs.YtmjoaipkaddkbaaGreatDoor
