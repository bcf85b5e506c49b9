/- Part of a proof. -/
import Derived.Test.YtmjoaipkaddkbaaGreatDoorP02
import Derived.Test.YtmjoaipkaddkbaaGreatDoorProg
import Derived.Laws.BitsAllLaws
import Derived.Laws.BitsLemmas
import Derived.WalkKit
noncomputable section
open Nat renaming reduceBEq → zB, reduceEqDiff → zC, reduceAdd → zD, reduceMul → zE, reduceSub → zF, reduceLT → zG, reduceLeDiff → zH
open Bool renaming and_self→bJv,false_eq_true→bIY,or_false→bM5
open Int renaming le_of_lt→bMl,lt_or_gt_of_ne→bMs,lt_trichotomy→bLx,mul_ediv_cancel_left→bLu,mul_eq_zero→bLU,natAbs_mul→bJJ,natAbs_neg→bLg,natCast_mul→bKb,not_lt→bKY,ofNat_dvd_left→bLR,sign_eq_neg_one_of_neg→bK8,sign_eq_one_of_pos→bK5,sign_mul→bMp
open List renaming append_nil→bK3,cons_append→bJG,drop_eq_getElem_cons→bKH,drop_of_length_le→bKW,drop_set→bMg,drop_zero→bJd,elem_cons→bMb,eq_nil_of_length_eq_zero→bJA,flatten_cons→bKR,getD_cons_zero→bMh,getD_eq_getElem?_getD→bJb,getElem?_cons_succ→bKy,getElem?_cons_zero→bLL,getElem?_eq_getElem→bJM,getElem?_eq_none→bLr,getElem?_take→bK1,getElem?_toArray→bLl,getElem_mem→bL8,length_append→bJ3,length_cons→bIV,length_drop→bJj,length_eq_zero_iff→bLP,length_map→bJB,length_nil→bJm,length_pos_iff→bJK,length_replicate→bJz,length_set→bJX,length_take→bIW,map_cons→bJu,map_nil→bLe,map_take→bLD,mem_cons→bJ4,replicate→bIQ,replicate_succ→bK9,take_length→bJy,take_of_length_le→bJ2,take_succ_cons→bL9,take_take→bJC,take_zero→bKG
open Nat renaming Coprime→bMo,add_assoc→bKu,add_comm→bJW,add_mul→bJp,add_mul_div_left→bLM,add_sub_cancel→bJw,add_zero→bJD,div_add_mod→bK4,div_eq_of_lt→bKs,div_le_self→bKc,div_lt_of_lt_mul→bKJ,div_mul_le_self→bLf,div_one→bMq,div_pos→bLQ,eq_zero_or_pos→bKF,gcd_dvd_left→bLv,gcd_dvd_right→bLS,gcd_le_right→bMr,gcd_pos_of_pos_right→bLw,le_div_iff_mul_le→bKV,le_mul_of_pos_right→bLh,le_of_dvd→bLi,le_of_lt→bJg,le_of_not_lt→bKP,le_refl→bIK,le_trans→bIO,lt_of_le_of_lt→bJe,lt_of_lt_of_le→bIP,lt_or_ge→bIT,lt_succ_of_lt→bLb,lt_succ_self→bIZ,lt_trans→bJR,min_eq_left→bJc,min_self→bMj,mod_eq_of_lt→bJo,mod_le→bLO,mod_lt→bJa,mul_add→bJ6,mul_assoc→bJ5,mul_comm→bIX,mul_div_cancel→bK2,mul_div_cancel_left→bLT,mul_le_mul→bKl,mul_le_mul_left→bJ7,mul_le_mul_right→bJ8,mul_left_comm→bLN,mul_lt_mul''→bKL,mul_lt_mul_of_pos_right→bMi,mul_one→bJn,mul_pos→bJH,mul_zero→bKK,not_lt→bMm,not_lt_zero→bJQ,one_mul→bKQ,pow_add→bK7,pow_le_pow_right→bJ9,pow_pos→bJx,pow_succ→bJ1,strongRecOn→bKw,succ_mul→bJT,two_pow_add_eq_or_of_lt→bMe,two_pow_pos→bLy,zero_add→bJl,zero_le→bIR,zero_lt_one→bKX
open Option renaming bind_some→bIS,getD_some→bKC,map_some→bJk
open Go renaming IntKind→bQc,Operand→bQd
set_option maxRecDepth 10000000
open Go
open Go.Proofs.Tryz
namespace Go.Proofs.YtmjoaipkaddkbaaGreatDoor.Ev
section
theorem aBy{s:VS}{a b:TV}{l:List TV}(h:Can (a::b::l))(hs:bW (a::b::l)<=cK):dM s (a::b::l)=some (.tp (a::b::l),false):=by
 have hc:=sF (s:=s) h.1 hs
 unfold dM
 split
 ·rename_i e;cases e
 ·rename_i e;cases e
 ·rename_i e;cases e
 ·rename_i k off len sz l' L e
  cases e
  have:=h.1
  simp [dR,cI]at this
 ·rename_i h1 h2 p Q
  rw[hc];simp only[bJk,h.2]
theorem aT6{t:TV}:nQ true (t,false)=(t,false):=rfl
theorem aRC{t:TV}:nQ true (.tp [t],true)=(t,false):=rfl
theorem aOT{s:VS}:dM s [.nil]=some (.em,false):=rfl
section
variable {α:Type}{E:EC α}
theorem EC.row_ne{a:α}{l:List α}:E.row (a::l)≠ []:=fun e=>by
 have h:=E.row_len (a::l)
 have S:=E.pos
 rw[e,bIV,bJT]at h
 simp only[bJm]at h
 omega
theorem EC.nrm_im(l:List α):jN (.im E.sz (E.row l))=E.t l:=by
 cases l with
 |nil=>
  show(if (E.row ([]:List α)).length=0/\0<E.sz then TV.em else .im E.sz (cL (E.row [])))=_
  rw[if_pos ⟨rfl,E.pos⟩];rfl
 |cons a l=>
  show(if (E.row (a::l)).length=0/\0<E.sz then TV.em else .im E.sz (cL (E.row (a::l))))=_
  rw[if_neg (fun h=>EC.row_ne (E:=E) (bJA h.1)),(E.row_can _).2]
  exact(aAI (EC.row_ne (E:=E))).symm
theorem aPw{s:VS}{k len sz:Nat}{l:List α}(r:k<s.nxt)(d:s.ob k=⟨0,E.row l⟩)(H:len=l.length)(I:sz=E.sz)(hs:l.length*E.siz+1<=cK):(dM s [.ow k 0 len sz]).map (nQ true)=some (E.t l,false):=by
 subst H I
 have x:(E.row l).length=l.length*E.sz:=E.row_len l
 have hc:=sF (s:=s) (E.row_can l).1 (bIO (E.row_siz l) hs)
 simp only[dM,d]
 split
 ·next h=>
  rw[bJd,bJ2 (by rw[x];exact bIK _),E.nrm_im]
  rfl
 ·next h=>
  cases l with
  |nil=>exact absurd ⟨r,trivial,rfl,by simp [EC.row]⟩ h
  |cons a l=>
   rw[if_pos ⟨trivial,r,trivial,x,E.pos⟩,hc]
   simp only[bIS,d,if_true,(E.row_can _).2]
   show some (nQ true (.im E.sz (E.row (a::l)),true))=_
   rw[show E.t (a::l)= .im E.sz (E.row (a::l))from aAI (EC.row_ne (E:=E))]
   rfl
theorem aEW{s:VS}{l:List α}:jA s E.sz (E.t l)=some (E.row l,l.length):=by
 cases l with
 |nil=>rfl
 |cons a l=>
  rw[show E.t (a::l)= .im E.sz (E.row (a::l))from aAI (EC.row_ne (E:=E))]
  simp only[jA]
  rw[if_pos ⟨trivial,E.pos⟩,E.row_len,bK2 _ E.pos]
theorem aFb{s:VS}{k w:Nat}{l:List α}(r:k<s.nxt)(d:s.ob k=⟨w,E.row l⟩)(A:w≠2):jA s E.sz (.ow k 0 l.length E.sz)=some (E.row l,l.length):=by
 simp only[jA,d]
 rw[if_pos ⟨trivial,r,A⟩]
 simp only[jF,bJl,bJd]
 rw[if_pos (by rw[E.row_len];exact bIK _),bJ2 (by rw[E.row_len];exact bIK _)]
 rfl
variable {P:Program}{e:TypeId}
theorem aQ3{s:VS}{k off len sz:Nat}{y:TV}(hc:dJ P e=true)(g:jA s (aU P e) y=some ([],0)):gT P e s (.ow k off len sz) y=some (.ow k off len sz,s):=by simp [gT,hc,g]
theorem bCb{s:VS}{y:TV}(hc:dJ P e=true)(g:jA s (aU P e) y=some ([],0)):gT P e s .nil y=some (.nil,s):=by simp [gT,hc,g]
theorem aBW{s:VS}{k len sz:Nat}{l l2:List α}{y:TV}(hc:dJ P e=true)(hs:aU P e=E.sz)(g:jA s E.sz y=some (E.row l2,l2.length))(r:k<s.nxt)(d:s.ob k=⟨0,E.row l⟩)(H:len=l.length)(I:sz=E.sz)(h2:l2≠ [])(n1:l.length<=10000000)(D:l2.length<=10000000):
  gT P e s (.ow k 0 len sz) y=some (.ow s.nxt 0 (len+l2.length) E.sz,(s.set k ⟨2,[]⟩).new (E.row (l++l2))):=by
 subst H I
 have h0:l2.length≠0:=fun e=>h2 (bJA e)
 simp only[gT,hc,if_true,hs,g,bIS,if_neg h0]
 rw[if_pos ⟨D,E.row_one _⟩,if_pos ⟨trivial,trivial,r,by rw[d],by rw[d];exact E.row_len _,n1⟩,d,E.row_app]
theorem aG3{s:VS}{l2:List α}{y:TV}(hc:dJ P e=true)(hs:aU P e=E.sz)(g:jA s E.sz y=some (E.row l2,l2.length))(h2:l2≠ [])(D:l2.length<=10000000):
  gT P e s .nil y=some (.ow s.nxt 0 l2.length E.sz,s.new (E.row l2)):=by
 have h0:l2.length≠0:=fun e=>h2 (bJA e)
 simp only[gT,hc,if_true,hs,g,bIS,if_neg h0]
 rw[if_pos ⟨D,E.row_one _⟩]
theorem aIy{s:VS}{k:Nat}{l:List α}(r:k<s.nxt)(d:s.ob k=⟨0,E.row l⟩){n:Nat}(hn:l.length*E.siz+1<=n):fE (n+1) s (.ow k 0 l.length E.sz)=some (.im E.sz (E.row l),s.set k ⟨1,E.row l⟩):=by
 unfold fE
 rw[if_pos ⟨r,by rw[d];exact fun h=>by cases h⟩,d]
 simp only
 have hc:jF (l.length*E.sz) 0 (E.row l)=some (E.row l):=by
  simp only[jF,bJl,bJd,E.row_len,bIK,if_true]
  rw[bJ2 (by rw[E.row_len];exact bIK _)]
 rw[hc]
 simp only[bIS]
 rw[(mY n).2 (E.row_can l).1 (bIO (E.row_siz l) hn)]
 rfl
def gD(E:EC α)(s:VS)(v:TV)(l:List α):Prop:=(v= .nil/\l=[])\/∃k,v= .ow k 0 l.length E.sz/\k<s.nxt/\s.ob k=⟨0,E.row l⟩
def Rest(s:VS)(v:TV)(s':VS):Prop:=s.nxt<=s'.nxt/\∀j,j<s.nxt->(∀o n z,v≠ .ow j o n z)->s'.ob j=s.ob j
theorem Rest.refl(s:VS)(v:TV):Rest s v s:=⟨bIK _,fun _ _ _=>rfl⟩
theorem gD.nil(s:VS):gD E s .nil []:= .inl ⟨rfl,rfl⟩
theorem gD.keep{s s':VS}{v:TV}{l:List α}(h:gD E s v l)(hn:s.nxt<=s'.nxt)(d:∀j,j<s.nxt->s'.ob j=s.ob j):gD E s' v l:=by
 rcases h with h|⟨k,h1,h2,p⟩
 ·exact .inl h
 ·exact .inr ⟨k,h1,bIP h2 hn,(d k h2).trans p⟩
theorem gD.step{s:VS}{v:TV}{l:List α}(h:gD E s v l)(a:α)(hc:dJ P e=true)(hs:aU P e=E.sz)(n1:l.length<=10000000):
  ∃v' s',gT P e (s.new (E.c a)) v (.ow s.nxt 0 1 E.sz)=some (v',s')/\gD E s' v' (l++[a])/\Rest s v s':=by
 have u:E.row [a]=E.c a:=bK3 _
 have B:(s.new (E.c a)).ob s.nxt=⟨0,E.row [a]⟩:=by rw[u];exact if_pos rfl
 have g:=aFb (E:=E) (s:=s.new (E.c a)) (k:=s.nxt) (l:=[a]) (bIZ _) B (by decide)
 have m:∀j,j<s.nxt->∀cs,(s.new cs).ob j=s.ob j:=fun j q cs=>if_neg (by omega)
 rcases h with ⟨rfl,rfl⟩|⟨k,rfl,h2,p⟩
 ·refine⟨_,_,aG3 (E:=E) (l2:=[a]) hc hs g (fun e=>by cases e) (show(1:Nat)<=10000000 by decide),.inr ⟨s.nxt+1,rfl,bIZ _,if_pos rfl⟩,by show s.nxt<=s.nxt+1+1;omega,fun j q _=> ?_⟩
  show(if j=s.nxt+1 then _ else(s.new (E.c a)).ob j)=_
  rw[if_neg (by omega)];exact m j q _
 ·have r:k<(s.new (E.c a)).nxt:=bLb h2
  have C:(s.new (E.c a)).ob k=⟨0,E.row l⟩:=(m k h2 _).trans p
  refine⟨_,_,aBW (E:=E) (l:=l) (l2:=[a]) hc hs g r C rfl rfl (fun e=>by cases e) n1 (show(1:Nat)<=10000000 by decide),.inr ⟨s.nxt+1,by rw[bJ3];rfl,bIZ _,if_pos rfl⟩,by show s.nxt<=s.nxt+1+1;omega,fun j q J=> ?_⟩
  show(if j=s.nxt+1 then _ else(if j=k then _ else(s.new (E.c a)).ob j))=_
  rw[if_neg (by omega),if_neg (fun e=>J 0 l.length E.sz (by rw[e]))];exact m j q _
theorem gD.ret{s:VS}{v:TV}{l:List α}(h:gD E s v l)(hs:l.length*E.siz+1<=cK):(dM s [v]).map (nQ true)=some (E.t l,false):=by
 rcases h with ⟨rfl,rfl⟩|⟨k,rfl,h2,p⟩
 ·rfl
 ·exact aPw h2 p rfl rfl hs
theorem gD.close{s:VS}{v:TV}{l:List α}(h:gD E s v l){n:Nat}(hn:l.length*E.siz+1<=n):∃t s',fE (n+1) s v=some (t,s')/\jN t=E.t l/\Rest s v s':=by
 rcases h with ⟨rfl,rfl⟩|⟨k,rfl,h2,p⟩
 ·exact⟨_,_,rfl,rfl,bIK _,fun _ _ _=>rfl⟩
 ·refine⟨_,_,aIy h2 p hn,E.nrm_im l,bIK _,fun j _ J=>if_neg fun e=>J 0 l.length E.sz (by rw[e])⟩
structure fL(E:EC α)(i s:VS)(v:TV)(l:List α):Prop where
 bld:gD E s v l
 nx:i.nxt<=s.nxt
 ob:∀j,j<i.nxt->s.ob j=i.ob j
 new:∀j o n z,v= .ow j o n z->i.nxt<=j
theorem fL.nil(s:VS):fL E s s .nil []:=⟨.nil s,bIK _,fun _ _=>rfl,fun _ _ _ _ h=>by cases h⟩
theorem fL.step{i s:VS}{v:TV}{l:List α}(h:fL E i s v l)(a:α)(hc:dJ P e=true)(hs:aU P e=E.sz)(n1:l.length<=10000000):
  ∃v' s',gT P e (s.new (E.c a)) v (.ow s.nxt 0 1 E.sz)=some (v',s')/\fL E i s' v' (l++[a]):=by
 have u:E.row [a]=E.c a:=bK3 _
 have B:(s.new (E.c a)).ob s.nxt=⟨0,E.row [a]⟩:=by rw[u];exact if_pos rfl
 have g:=aFb (E:=E) (s:=s.new (E.c a)) (k:=s.nxt) (l:=[a]) (bIZ _) B (by decide)
 obtain⟨G,hn,d,A⟩:=h
 have m:∀j,j<s.nxt->∀cs,(s.new cs).ob j=s.ob j:=fun j q cs=>if_neg (by omega)
 rcases G with ⟨rfl,rfl⟩|⟨k,rfl,h2,p⟩
 ·refine⟨_,_,aG3 (E:=E) (l2:=[a]) hc hs g (fun e=>by cases e) (show(1:Nat)<=10000000 by decide),.inr ⟨s.nxt+1,rfl,bIZ _,if_pos rfl⟩,by show i.nxt<=s.nxt+1+1;omega,fun j q=> ?_,fun j o n z e=>by cases e;show i.nxt<=s.nxt+1;omega⟩
  show(if j=s.nxt+1 then _ else(s.new (E.c a)).ob j)=_
  rw[if_neg (by omega),m j (by omega)];exact d j q
 ·have r:k<(s.new (E.c a)).nxt:=bLb h2
  have C:(s.new (E.c a)).ob k=⟨0,E.row l⟩:=(m k h2 _).trans p
  have K:=A k 0 l.length E.sz rfl
  refine⟨_,_,aBW (E:=E) (l:=l) (l2:=[a]) hc hs g r C rfl rfl (fun e=>by cases e) n1 (show(1:Nat)<=10000000 by decide),.inr ⟨s.nxt+1,by rw[bJ3];rfl,bIZ _,if_pos rfl⟩,by show i.nxt<=s.nxt+1+1;omega,fun j q=> ?_,fun j o n z e=>by cases e;show i.nxt<=s.nxt+1;omega⟩
  show(if j=s.nxt+1 then _ else(if j=k then _ else(s.new (E.c a)).ob j))=_
  rw[if_neg (by omega),if_neg (by omega),m j (by omega)];exact d j q
theorem fL.app{i s:VS}{v:TV}{l:List α}(h:fL E i s v l)(l2:List α)(hc:dJ P e=true)(hs:aU P e=E.sz)(n1:l.length<=10000000)(D:l2.length<=10000000):
  ∃v' s',gT P e s v (E.t l2)=some (v',s')/\fL E i s' v' (l++l2):=by
 have g:=aEW (E:=E) (s:=s) (l:=l2)
 obtain⟨G,hn,d,A⟩:=h
 by_cases h0:l2=[]
 ·subst h0
  rw[bK3]
  rcases G with ⟨rfl,rfl⟩|⟨k,rfl,h2,p⟩
  ·exact⟨_,_,bCb hc (by rw[hs];exact g),.inl ⟨rfl,rfl⟩,hn,d,A⟩
  ·exact⟨_,_,aQ3 hc (by rw[hs];exact g),.inr ⟨k,rfl,h2,p⟩,hn,d,A⟩
 rcases G with ⟨rfl,rfl⟩|⟨k,rfl,h2,p⟩
 ·refine⟨_,_,aG3 hc hs g h0 D,.inr ⟨s.nxt,rfl,bIZ _,if_pos rfl⟩,by show i.nxt<=s.nxt+1;omega,fun j q=> ?_,fun j o n z e=>by cases e;show i.nxt<=s.nxt;omega⟩
  show(if j=s.nxt then _ else s.ob j)=_
  rw[if_neg (by omega)];exact d j q
 ·have K:=A k 0 l.length E.sz rfl
  refine⟨_,_,aBW (E:=E) (l:=l) (l2:=l2) hc hs g h2 p rfl rfl h0 n1 D,.inr ⟨s.nxt,by rw[bJ3],bIZ _,if_pos rfl⟩,by show i.nxt<=s.nxt+1;omega,fun j q=> ?_,fun j o n z e=>by cases e;show i.nxt<=s.nxt;omega⟩
  show(if j=s.nxt then _ else(if j=k then _ else s.ob j))=_
  rw[if_neg (by omega),if_neg (by omega)];exact d j q
section
variable {orc:cN}{f:FuncId}
theorem gD.call{s:VS}{v:TV}{l:List α}{ts:List TV}{R:TV}(h:gD E s v l)(F:Can ts)(hsz:bW ts<=1000)(hn:l.length*E.siz<=90000000)(d:orc f (E.t l::ts)=some (R,false)):∃s1 M,dD orc f (v::ts) s=some (R,s1)/\fD orc f (v::ts) s=some (R,M)/\Rest s v s1/\Rest s v M:=by
 obtain⟨t,s',L,O,N⟩:=h.close (n:=99999998) (by omega)
 have ec:cX cK s (v::ts)=some (t::ts,s'):=by
  show cX (99999999+1) s (v::ts)=_
  simp only[cX,L,bIS]
  rw[(mY 99999999).2 F.1 (by omega)]
  rfl
 have en:cL (t::ts)=E.t l::ts:=by simp only[cL,O,F.2]
 refine⟨s',if fU R then s else s', ?_, ?_,N, ?_⟩
 ·unfold dD
  rw[ec]
  simp only[bIS,en,d,bIY,if_false]
 ·unfold fD
  rw[ec]
  simp only[bIS,en,d,bIY,if_false]
  split<;>rfl
 ·split
  ·exact .refl s v
  ·exact N
end
end
end
end Go.Proofs.YtmjoaipkaddkbaaGreatDoor.Ev
namespace Go.Proofs.YtmjoaipkaddkbaaGreatDoor
section
def val:List Nat->Nat
 | []=>0
 |x::xs=>x+4294967296*val xs
def bC(xs:List Nat):Prop:=∀x∈xs,x<4294967296
def cG:List Nat->List Nat
 | []=>[]
 |x::xs=>if cG xs=[]/\x=0 then []else x::cG xs
def aO(n:Nat):List Nat:=if h:n=0 then []else(n%4294967296)::aO (n/4294967296)
 termination_by n
 decreasing_by omega
theorem gW:aO 0=[]:=by rw[aO];simp
theorem uM{n:Nat}(h:n≠0):aO n=(n%4294967296)::aO (n/4294967296):=by rw[aO];simp [h]
theorem bC.nil:bC []:=by intro x hx;cases hx
theorem bC.cons{x:Nat}{xs:List Nat}(h:x<4294967296)(hs:bC xs):bC (x::xs):=by
 intro y hy
 rcases bJ4.1 hy with rfl|hy
 ·exact h
 ·exact hs y hy
theorem bC.head{x:Nat}{xs:List Nat}(h:bC (x::xs)):x<4294967296:=h x (List.mem_cons_self ..)
theorem bC.tail{x:Nat}{xs:List Nat}(h:bC (x::xs)):bC xs:=fun y hy=>h y (List.mem_cons_of_mem _ hy)
theorem bC.take{xs:List Nat}(h:bC xs)(k:Nat):bC (xs.take k):=fun y hy=>h y (List.mem_of_mem_take hy)
theorem bC.drop{xs:List Nat}(h:bC xs)(k:Nat):bC (xs.drop k):=fun y hy=>h y (List.mem_of_mem_drop hy)
theorem bC.get{xs:List Nat}(h:bC xs){k:Nat}(a:k<xs.length):xs[k]<4294967296:=h _ (bL8 a)
theorem bC.getD{xs:List Nat}(h:bC xs)(k:Nat):xs.getD k 0<4294967296:=by
 by_cases a:k<xs.length
 ·rw[bJb,bJM a];exact h.get a
 ·rw[bJb,bLr (by omega)];simp
theorem cV(n:Nat):bC (aO n):=by
 induction n using bKw with
 |_ n ih=>
  by_cases h:n=0
  ·subst h;rw[gW];exact bC.nil
  ·rw[uM h];exact bC.cons (by omega) (ih _ (by omega))
theorem cO(n:Nat):val (aO n)=n:=by
 induction n using bKw with
 |_ n ih=>
  by_cases h:n=0
  ·subst h;rw[gW];rfl
  ·rw[uM h,val,ih _ (by omega)];omega
theorem aN4(xs:List Nat):val (cG xs)=val xs:=by
 induction xs with
 |nil=>rfl
 |cons x xs ih=>
  unfold cG
  by_cases h:cG xs=[]/\x=0
  ·rw[if_pos h];rw[h.1]at ih;simp [val]at ih ⊢;omega
  ·rw[if_neg h];simp [val,ih]
theorem iB{xs:List Nat}(h:bC xs):cG xs=aO (val xs):=by
 induction xs with
 |nil=>simp [cG,val,gW]
 | cons x xs ih=>
  have hx:=h.head
  have ih:=ih h.tail
  unfold cG
  by_cases hc:cG xs=[]/\x=0
  ·rw[if_pos hc]
   have h0:val xs=0:=by have:=aN4 xs;rw[hc.1]at this;simp [val]at this;omega
   simp [val,h0,hc.2,gW]
  ·rw[if_neg hc]
   have hn:val (x::xs)≠0:=by
    intro e
    apply hc
    simp only[val]at e
    have h0:val xs=0:=by omega
    exact⟨by rw[ih,h0,gW],by omega⟩
   rw[uM hn,ih]
   have i:val (x::xs)%4294967296=x:=by simp only[val];omega
   have l:val (x::xs)/4294967296=val xs:=by simp only[val];omega
   rw[i,l]
theorem aUJ{xs:List Nat}(h:bC xs)(o:cG xs=xs):aO (val xs)=xs:=by rw[←iB h,o]
theorem aCG(xs ys:List Nat):val (xs++ys)=val xs+4294967296^xs.length*val ys:=by
 induction xs with
 |nil=>simp [val]
 |cons x xs ih=>simp only[bJG,val,ih,bIV,bJ1];rw[bJ6,bIX (4294967296^xs.length) 4294967296,bJ5];omega
theorem iY{xs:List Nat}(h:bC xs):val xs<4294967296^xs.length:=by
 induction xs with
 |nil=>simp [val]
 |cons x xs ih=>
  have hx:=h.head
  have ih:=ih h.tail
  simp only[val,bIV,bJ1]
  have:4294967296*(val xs+1)<=4294967296*4294967296^xs.length:=bJ7 _ ih
  rw[bIX (4294967296^xs.length)]
  omega
theorem qC(xs:List Nat):(cG xs).length<=xs.length:=by
 induction xs with
 |nil=>simp [cG]
 |cons x xs ih=>unfold cG;split<;>simp<;>omega
theorem aLM{xs:List Nat}(h:bC xs):bC (cG xs):=by rw[iB h];exact cV _
theorem aUL(xs:List Nat):cG (xs++[0])=cG xs:=by
 induction xs with
 |nil=>simp [cG]
 |cons x xs ih=>simp only[bJG,cG,ih]
theorem aL4(xs:List Nat){x:Nat}(h:x≠0):cG (xs++[x])=xs++[x]:=by
 induction xs with
 |nil=>simp [cG,h]
 |cons y xs ih=>simp only[bJG,cG,ih];simp
theorem aUP{x:Nat}{xs:List Nat}(h:cG xs=[]/\x=0):cG (x::xs)=[]:=by show(if cG xs=[]/\x=0 then []else x::cG xs)=[];rw[if_pos h]
theorem aW2{x:Nat}{xs:List Nat}(h:¬(cG xs=[]/\x=0)):cG (x::xs)=x::cG xs:=by show(if cG xs=[]/\x=0 then []else x::cG xs)=_;rw[if_neg h]
theorem mW(xs:List Nat):cG xs=xs.take (cG xs).length:=by
 induction xs with
 |nil=>rfl
 |cons x xs ih=>
  by_cases h:cG xs=[]/\x=0
  ·rw[aUP h];rfl
  ·rw[aW2 h];simp only[bIV,bL9];rw[←ih]
theorem kH(n:Nat):cG (aO n)=aO n:=by rw[iB (cV n),cO]
theorem sE{n:Nat}:aO n=[]↔n=0:=by
 constructor
 ·intro h
  have:=cO n
  rw[h]at this
  simpa [val]using this.symm
 ·intro h;rw[h,gW]
theorem aHS{m n:Nat}(h:aO m=aO n):m=n:=by rw[←cO m,h,cO]
theorem lY{n k:Nat}(h:n<4294967296^k):(aO n).length<=k:=by
 induction k generalizing n with
 |zero=>
  have:n=0:=by simpa using h
  rw[this,gW];simp
 | succ k ih=>
  by_cases hn:n=0
  ·rw[hn,gW];simp
  ·rw[uM hn,bIV]
   have:n/4294967296<4294967296^k:=by
    rw[bJ1,bIX]at h
    exact bKJ h
   have:=ih this
   omega
theorem aKW{n k:Nat}(h:4294967296^k<=n):k<(aO n).length:=by
 induction k generalizing n with
 | zero=>
  have hn:n≠0:=by
   intro e;rw[e]at h;simp at h
  rw[uM hn];simp
 | succ k ih=>
  have p:0<4294967296^k:=bJx (by omega)
  have hn:n≠0:=by
   intro e;rw[e]at h
   have:=bJx (n:=k+1) (show 0<4294967296 by omega);omega
  rw[uM hn,bIV]
  have:4294967296^k<=n/4294967296:=by
   rw[bKV (by omega)]
   rw[bJ1]at h;exact h
  have:=ih this
  omega
theorem aHg{m n:Nat}(h:(aO m).length<(aO n).length):m<n:=by
 rcases bIT m n with h1|h1
 ·exact h1
 ·exfalso
  by_cases hn:n=0
  ·rw[hn,gW]at h;simp at h
  ·have h3:4294967296^((aO n).length-1)<=n:=by
    rcases bIT n (4294967296^((aO n).length-1))with h2|h2
    ·have:=lY h2
     omega
    ·exact h2
   have:=aKW (bIO h3 h1)
   omega
theorem aHA(xs:List Nat){k:Nat}(a:k<xs.length):xs.take (k+1)=xs.take k++[xs.getD k 0]:=by
 rw[List.take_succ_eq_append_getElem a,bJb,bJM a];rfl
theorem wU{xs:List Nat}{k:Nat}(a:k<xs.length)(h:xs.getD k 0=0):cG (xs.take (k+1))=cG (xs.take k):=by
 rw[aHA xs a,h,aUL]
theorem wW{xs:List Nat}{k:Nat}(a:k<xs.length)(h:xs.getD k 0≠0):(cG (xs.take (k+1))).length=k+1:=by
 rw[aHA xs a,aL4 _ h,bJ3,bIW];simp;omega
theorem aEl(xs:List Nat){k:Nat}(a:k<xs.length):val (xs.take (k+1))=val (xs.take k)+4294967296^k*xs.getD k 0:=by
 rw[aHA xs a,aCG,bIW,bJc (by omega)];simp [val]
theorem oW(xs:List Nat){j:Nat}(b:j<xs.length):val (xs.drop j)=xs.getD j 0+4294967296*val (xs.drop (j+1)):=by
 rw[bKH b,val,bJb,bJM b];rfl
theorem aVl{xs:List Nat}(h:bC xs)(j:Nat):val (xs.drop j)<4294967296^(xs.length-j):=by
 have:=iY (h.drop j)
 rwa [bJj]at this
theorem aV1{xs:List Nat}(h:bC xs){j:Nat}(b:xs.length<=j+1):val (xs.drop j)<4294967296:=by
 have:=aVl h j
 have h2:xs.length-j<=1:=by omega
 rcases bIT (xs.length-j) 1 with h3|h3
 ·have g:xs.length-j=0:=by omega
  rw[g]at this;simp at this;omega
 ·have g:xs.length-j=1:=by omega
  rw[g]at this;simpa using this
theorem aA3(xs:List Nat){j:Nat}(b:j<xs.length):xs.drop j=xs.getD j 0::xs.drop (j+1):=by
 rw[bKH b,bJb,bJM b];rfl
theorem oQ(xs:List Nat)(j:Nat)(b:j<=xs.length):val xs=val (xs.take j)+4294967296^j*val (xs.drop j):=by
 have:=aCG (xs.take j) (xs.drop j)
 rw[List.take_append_drop,bIW,bJc b]at this
 exact this
theorem aL1{xs ys:List Nat}(hx:bC xs){j:Nat}(f:xs.length=ys.length)(b:j<xs.length)(d:xs.drop (j+1)=ys.drop (j+1))(c:xs.getD j 0<ys.getD j 0):val xs<val ys:=by
 rw[oQ xs j (by omega),oQ ys j (by omega),oW xs b,oW ys (by omega),d]
 have h1:val (xs.take j)<4294967296^j:=by
  have:=iY (hx.take j)
  rwa [bIW,bJc (by omega)]at this
 have h2:4294967296^j*(xs.getD j 0+1+4294967296*val (ys.drop (j+1)))<=4294967296^j*(ys.getD j 0+4294967296*val (ys.drop (j+1))):=bJ7 _ (by omega)
 have h3:4294967296^j*(xs.getD j 0+1+4294967296*val (ys.drop (j+1)))=4294967296^j*(xs.getD j 0+4294967296*val (ys.drop (j+1)))+4294967296^j:=by
  rw[show xs.getD j 0+1+4294967296*val (ys.drop (j+1))=(xs.getD j 0+4294967296*val (ys.drop (j+1)))+1 by omega,bJ6,bJn]
 omega
def nI(xs ys:List Nat):Int:=if xs.length<ys.length then-1 else if ys.length<xs.length then 1 else if val xs<val ys then-1 else if val ys<val xs then 1 else 0
theorem aMd{xs ys:List Nat}(h:xs.length<ys.length):nI xs ys= -1:=by unfold nI;rw[if_pos h]
theorem aNo{xs ys:List Nat}(h:ys.length<xs.length):nI xs ys=1:=by unfold nI;rw[if_neg (by omega),if_pos h]
theorem aMr{xs ys:List Nat}(hx:bC xs){j:Nat}(f:xs.length=ys.length)(b:j<xs.length)(d:xs.drop (j+1)=ys.drop (j+1))(c:xs.getD j 0<ys.getD j 0):nI xs ys= -1:=by
 have:=aL1 hx f b d c
 unfold nI;rw[if_neg (by omega),if_neg (by omega),if_pos this]
theorem aMF{xs ys:List Nat}(hy:bC ys){j:Nat}(f:xs.length=ys.length)(b:j<xs.length)(d:xs.drop (j+1)=ys.drop (j+1))(c:ys.getD j 0<xs.getD j 0):nI xs ys=1:=by
 have:=aL1 hy f.symm (by omega) d.symm c
 unfold nI;rw[if_neg (by omega),if_neg (by omega),if_neg (by omega),if_pos this]
theorem aNk(xs:List Nat):nI xs xs=0:=by unfold nI;simp
theorem aHG(m n:Nat):nI (aO m) (aO n)=if m<n then-1 else if n<m then 1 else 0:=by
 unfold nI
 rw[cO,cO]
 by_cases h1:(aO m).length<(aO n).length
 ·rw[if_pos h1,if_pos (aHg h1)]
 ·rw[if_neg h1]
  by_cases h2:(aO n).length<(aO m).length
  ·have:=aHg h2
   rw[if_pos h2,if_neg (by omega),if_pos this]
  ·rw[if_neg h2]
end
section
theorem aJ3{xs:List Nat}{j:Nat}(m:j<xs.length)(y:Nat):val (xs.set j y)+4294967296^j*xs.getD j 0=val xs+4294967296^j*y:=by
 have d:(xs.set j y).take j=xs.take j:=by rw[List.take_set_of_le (by omega)]
 have l:(xs.set j y).drop j=y::xs.drop (j+1):=by
  rw[aA3 _ (by simp;omega),bMg,if_pos (by omega)]
  congr 1
  rw[bJb,List.getElem?_set_self (by omega)];rfl
 rw[oQ (xs.set j y) j (by simp;omega),d,l,oQ xs j (by omega),oW xs m,val]
 rw[bJ6,bJ6]
 omega
theorem uJ{xs:List Nat}{j:Nat}(m:j<xs.length)(y:Nat):(xs.set j y).getD j 0=y:=by
 rw[bJb,List.getElem?_set_self (by omega)];rfl
theorem getD_set_ne{xs:List Nat}{i j:Nat}(h:i≠j)(y:Nat):(xs.set i y).getD j 0=xs.getD j 0:=by
 rw[bJb,List.getElem?_set_ne h,bJb]
theorem wV(n j:Nat):(bIQ n 0).getD j 0=0:=by
 rw[bJb,List.getElem?_replicate];split<;>rfl
theorem aHk(n:Nat):val (bIQ n 0)=0:=by
 induction n with
 |zero=>rfl
 |succ n ih=>rw[bK9,val,ih]
theorem getD_take{xs:List Nat}{i j:Nat}(h:j<i):(xs.take i).getD j 0=xs.getD j 0:=by
 rw[bJb,bK1,if_pos h,bJb]
theorem qF{xs:List Nat}{j:Nat}(h:xs.length<=j):xs.getD j 0=0:=by
 rw[bJb,bLr h];rfl
def blen(x:Nat):Nat:=if h:x=0 then 0 else blen (x/2)+1
 termination_by x
 decreasing_by omega
theorem aBk:blen 0=0:=by rw[blen];simp
theorem aAa{x:Nat}(h:x≠0):blen x=blen (x/2)+1:=by rw[blen];simp [h]
theorem aL0(x:Nat):x<2^blen x:=by
 induction x using bKw with
 | _ x ih=>
  by_cases h:x=0
  ·rw[h,aBk];simp
  ·have:=ih (x/2) (by omega)
   rw[aAa h,bJ1];omega
theorem aKY{x:Nat}(h:x≠0):2^(blen x-1)<=x:=by
 induction x using bKw with
 | _ x ih=>
  rw[aAa h,bJw]
  by_cases h2:x/2=0
  ·rw[h2,aBk];simp;omega
  ·have:=ih (x/2) (by omega) h2
   rw[aAa h2]at this ⊢
   rw[bJw]at this
   rw[bJ1];omega
theorem aBP{x k:Nat}(h:x<2^k):blen x<=k:=by
 by_cases h0:x=0
 ·rw[h0,aBk];omega
 ·rcases bIT k (blen x)with h1|h1
  ·have h2:=aKY h0
   have f:2^k<=2^(blen x-1):=bJ9 (by omega) (by omega)
   omega
  ·exact h1
theorem aHl{s:Nat}(hs:s<=32):2^s*2^(32-s)=4294967296:=by
 rw[←bK7,show s+(32-s)=32 by omega]
theorem aZU{x c s:Nat}(hs:s<32)(hx:x<4294967296)(hc:c<2^s):
  c+(x*2^s)%4294967296<4294967296/\(x*2^s)/4294967296<2^s/\c+(x*2^s)%4294967296+4294967296*((x*2^s)/4294967296)=c+x*2^s:=by
 have b:=aHl (s:=s) (by omega)
 have h0:0<2^s:=bJx (by omega)
 have e:(x*2^s)%4294967296=2^s*(x%2^(32-s)):=by
  rw[←b,bIX x,Nat.mul_mod_mul_left]
 have h1:x%2^(32-s)<2^(32-s):=bJa _ (bJx (by omega))
 refine⟨?_, ?_,by omega⟩
 ·rw[e]
  have h2:2^s*(x%2^(32-s)+1)<=2^s*2^(32-s):=bJ7 _ h1
  rw[bJ6]at h2
  omega
 ·apply bKJ
  rw[bIX 4294967296,bIX x]
  exact Nat.mul_lt_mul_of_pos_left hx h0
theorem aRK{x c s:Nat}(hs:s<32)(hc:c<2^s):c|||(x*2^s)%4294967296=c+(x*2^s)%4294967296:=by
 have b:=aHl (s:=s) (by omega)
 have e:(x*2^s)%4294967296=2^s*(x%2^(32-s)):=by
  rw[←b,bIX x,Nat.mul_mod_mul_left]
 rw[e,Nat.or_comm,←bMe hc,bJW]
def qN(xs:List Nat)(s j:Nat):Nat:=((xs.getD j 0+4294967296*xs.getD (j+1) 0)/2^s)%4294967296
def nH(s:Nat):List Nat->List Nat
 | []=>[]
 |x::xs=>((x+4294967296*xs.getD 0 0)/2^s)%4294967296::nH s xs
theorem aHn(s:Nat)(xs:List Nat):(nH s xs).length=xs.length:=by
 induction xs with
 |nil=>rfl
 |cons x xs ih=>simp [nH,ih]
theorem aM0(s:Nat)(xs:List Nat):∀j,j<xs.length->(nH s xs).getD j 0=qN xs s j:=by
 induction xs with
 |nil=>intro j h;simp at h
 | cons x xs ih=>
  intro j h
  cases j with
  |zero=>simp [nH,qN]
  |succ j=>
   have:=ih j (by simpa using h)
   simp only[nH,List.getD_cons_succ,this,qN]
theorem aLL(s:Nat)(xs:List Nat):bC (nH s xs):=by
 induction xs with
 |nil=>exact bC.nil
 |cons x xs ih=>exact bC.cons (bJa _ (by omega)) ih
theorem aN7{s:Nat}(hs:s<32){xs:List Nat}(h:bC xs):val (nH s xs)=val xs/2^s:=by
 have b:=aHl (s:=s) (by omega)
 have h0:0<2^s:=bJx (by omega)
 induction xs with
 |nil=>simp [nH,val]
 | cons x xs ih=>
  have hx:=h.head
  have ih:=ih h.tail
  simp only[nH,val,ih]
  generalize C:2^s=P at*
  generalize p:2^(32-s)=Q at*
  have q:0<Q:=by rw[←p];exact bJx (by omega)
  have d:∀y,(x+4294967296*y)/P=x/P+Q*y:=fun y=>by
   rw[←b,bJ5,bLM _ _ h0]
  have r:x/P<Q:=bKJ (by rw[b];exact hx)
  have l:(x/P+Q*xs.getD 0 0)%4294967296=x/P+Q*(xs.getD 0 0%P):=by
   have t:Q*xs.getD 0 0=4294967296*(xs.getD 0 0/P)+Q*(xs.getD 0 0%P):=by
    have f:=bK4 (xs.getD 0 0) P
    generalize xs.getD 0 0/P=A at*
    generalize xs.getD 0 0%P=B at*
    rw[←f,←b,bJ6,←bJ5,bIX Q P]
   have D:Q*(xs.getD 0 0%P)+Q<=4294967296:=by
    have u:xs.getD 0 0%P+1<=P:=bJa _ h0
    have o:=bJ7 Q u
    rw[bJ6,bJn,bIX Q P,b]at o
    exact o
   rw[t]
   generalize x/P=a at*
   generalize xs.getD 0 0/P=g at*
   generalize Q*(xs.getD 0 0%P)=i at*
   omega
  have v:val xs%P=xs.getD 0 0%P:=by
   cases xs with
   |nil=>simp [val]
   |cons y ys=>simp only[val,bMh];rw[←b,bJ5,Nat.add_mul_mod_self_left]
  rw[d,d,l,←v]
  have f:=bK4 (val xs) P
  generalize val xs/P=A at*
  generalize val xs%P=B at*
  rw[←f,←b,bJ6,←bJ5,bIX Q P]
  omega
theorem aF1{xs ys:List Nat}(w:xs.length=ys.length)(h:∀j,j<xs.length->xs.getD j 0=ys.getD j 0):xs=ys:=by
 apply List.ext_getElem w
 intro j h1 h2
 have:=h j h1
 rwa [bJb,bJM h1,bJb,bJM h2]at this
theorem aL5{xs:List Nat}{k:Nat}(h:xs.length<=k):val (xs.take k)=val xs:=by rw[bJ2 h]
theorem nT(ys:List Nat)(k:Nat):val (ys.take (k+1))=val (ys.take k)+4294967296^k*ys.getD k 0:=by
 by_cases h:k<ys.length
 ·exact aEl ys h
 ·rw[aL5 (by omega),aL5 (by omega),qF (by omega)];omega
theorem aEm{zs:List Nat}{k y:Nat}(z:k<zs.length):val ((zs.set k y).take (k+1))=val (zs.take k)+4294967296^k*y:=by
 rw[nT,uJ z,List.take_set_of_le (by omega)]
end
end Go.Proofs.YtmjoaipkaddkbaaGreatDoor
namespace Go.Proofs.YtmjoaipkaddkbaaGreatDoor.Ev
section
abbrev PG:Program:=prog
def aE4:List Nat:=[94,246,247,248,65,148,147]
def aU1:List Nat:=[73,154,151,155,153,156,70,69,26,27,232,163,25,209,138,208,134,54,91,207,127,89]
def aDP:List Nat:=[178,35,130,29,30,31,36,33,37,5,264]
def cC:lW:=⟨fun f=>aE4.elem f,fun f=>aU1.elem f,fun f=>aDP.elem f⟩
def aCa:TV->Option Nat
 | .int .u32 (.ofNat n)=>if n<4294967296 then some n else none
 |_=>none
def rO:TV->Option (List Nat)
 | .em=>some []
 | .im 1 cs=>cs.mapM aCa
 |_=>none
def aDI:List TV->Option (TV×Bool)
 | [t]=>(rO t).bind fun xs=>if xs.length<=2 then some (.int .u64 (val xs:Nat),false)else none
 |_=>none
def aFT:List Nat:=[93,113]
def aQV:List TV->Option (TV×Bool)
 | [.em]=>some (.em,false)
 |_=>none
def wO:cN:=fun f args=>bif Nat.beq f 178 then aDI args else bif aFT.elem f then aQV args else none
abbrev VX:Nat->cN:=gG PG cC wO
theorem dC{n:Nat}(h:n<10000000):n<rN:=bJR h (by decide)
theorem eW:cU PG 45=some 100:=by kernel_rfl
theorem s1:aU PG 100=1:=by kernel_rfl
theorem k1:dE PG 100=true:=by kernel_rfl
theorem a1:jY PG 100=false:=by kernel_rfl
theorem c1:dJ PG 100=true:=by kernel_rfl
theorem z1:pE PG 100=some [.int .u32 ((0:Nat):Int)]:=by kernel_rfl
theorem aW:jY PG 45=false:=by kernel_rfl
theorem kW:dE PG 45=true:=by kernel_rfl
theorem kB':dE PG 4=true:=by kernel_rfl
theorem aB:jY PG 4=false:=by kernel_rfl
theorem fI0:lF PG 47 0=some (0,4):=by kernel_rfl
theorem fI1:lF PG 47 1=some (1,45):=by kernel_rfl
theorem zI:pE PG 47=some [.b false,.nil]:=by kernel_rfl
theorem bI:aA1 PG 47=true:=by kernel_rfl
theorem pI0:qJ PG 47 0=some (0,1):=by kernel_rfl
theorem pI1:qJ PG 47 1=some (1,1):=by kernel_rfl
theorem kI:dE PG 47=true:=by kernel_rfl
theorem aI:jY PG 47=true:=by kernel_rfl
theorem sI:aU PG 47=2:=by kernel_rfl
theorem fR0:lF PG 78 0=some (0,47):=by kernel_rfl
theorem fR1:lF PG 78 1=some (2,47):=by kernel_rfl
theorem zR:pE PG 78=some [.b false,.nil,.b false,.nil]:=by kernel_rfl
theorem bR':aA1 PG 78=true:=by kernel_rfl
theorem pR0:qJ PG 78 0=some (0,2):=by kernel_rfl
theorem pR1:qJ PG 78 1=some (2,2):=by kernel_rfl
theorem kR:dE PG 78=true:=by kernel_rfl
theorem aR:jY PG 78=true:=by kernel_rfl
theorem sR:aU PG 78=4:=by kernel_rfl
theorem wQ:dJ PG 78=true:=by kernel_rfl
theorem eR:cU PG 35=some 78:=by kernel_rfl
theorem cB':dJ PG 4=true:=by kernel_rfl
theorem cW':dJ PG 45=true:=by kernel_rfl
theorem cI':dJ PG 47=true:=by kernel_rfl
theorem sB':aU PG 4=1:=by kernel_rfl
theorem sW':aU PG 45=1:=by kernel_rfl
theorem n64:oE PG 100 103=some .u64:=by kernel_rfl
theorem n32:oE PG 103 100=some .u32:=by kernel_rfl
theorem aTK:oE PG 103 2=some .i64:=by kernel_rfl
theorem aTL:oE PG 2 103=some .u64:=by kernel_rfl
theorem nii:oE PG 3 2=some .i64:=by kernel_rfl
def wc(x:Nat):TV:= .int .u32 (x:Int)
def tW(xs:List Nat):TV:=tL 1 (xs.map wc)
theorem aG6(x:Nat):cP (wc x):=cP.int _ _
theorem jB(xs:List Nat):cP (tW xs):=cP.tL (by decide) (Can.map aG6 xs)
theorem aFS{xs:List Nat}:(tW xs).one=true:=aG4
theorem aF5{xs:List Nat}:(tW xs).cells=[tW xs]:=aF0
theorem bFG(sz:Nat)(cs:List TV):dA (tL sz cs)=1:=by cases cs<;>rfl
theorem fJ(xs:List Nat):dA (tW xs)=1:=bFG _ _
theorem aSp{s:VS}{xs:List Nat}:dM s [tW xs]=some (tW xs,false):=sO (jB xs) (by rw[fJ];decide)
theorem aSV{s:VS}{x:Bool}:dM s [.b x]=some (.b x,false):=sO (cP.b x) (by simp only[dA];decide)
theorem aSq{s:VS}{k:bQc}{x:Int}:dM s [.int k x]=some (.int k x,false):=sO (cP.int k x) (by simp only[dA];decide)
def ci(n:Bool)(xs:List Nat):List TV:=[.b n,tW xs]
theorem aFY(n:Bool)(xs:List Nat):Can (ci n xs):=Can.cons (cP.b n) (Can.cons (jB xs) Can.nil)
theorem aQo{s:VS}{n:Bool}{xs:List Nat}:dM s [.ag [.b n,tW xs]]=some (.ag (ci n xs),false):=sO (cP.ag (aFY n xs)) (by simp only[dA,bW,fJ];decide)
theorem aSm{xs:List Nat}:jU PG 45 (tW xs)=some (.int .i64 (xs.length:Nat)):=by unfold tW;rw[aPQ eW s1 (by decide)];simp
theorem aPf{xs:List Nat}{j:Nat}(h:j<xs.length):mE PG 45 (tW xs) j=some (.pi (xs.map wc) j):=by
 unfold tW;rw[aMO eW k1 s1 (by decide) (by simp;omega)];simp
theorem aQg{xs:List Nat}{j:Nat}{s:VS}(h:j<xs.length):kD PG 100 s (.pi (xs.map wc) j)=some (.int .u32 (xs.getD j 0:Nat)):=by
 rw[aEE a1];simp [h,wc,bJb]
theorem aTu(n:Nat):(bIQ n [TV.int .u32 ((0:Nat):Int)]).flatten=(bIQ n 0).map wc:=by
 induction n with
 |zero=>rfl
 |succ n ih=>rw[bK9,bKR,ih,bK9,bJu];rfl
theorem aMz{k off len j:Nat}(h:j<len):mE PG 45 (.ow k off len 1) j=some (.po k (off+j)):=by
 simp only[mE,eW,k1,if_true,s1];rw[if_pos ⟨trivial,h⟩,bJn]
theorem aQs{k off len sz:Nat}:jU PG 45 (.ow k off len sz)=some (.int .i64 (len:Nat)):=by simp [jU,eW]
theorem aMe{r:bB}{k off len:Nat}{i:Option bQd}:iX PG 45 r (.ow k off len 1) none i none=(eM r len i).bind fun h=>if h<=len then some (.ow k off h 1)else none:=by
 simp only[iX,eW,k1,if_true,s1,eM,bIS]
 congr 1;funext h
 by_cases hh:h<=len
 ·rw[if_pos ⟨bIR _,hh⟩,if_pos hh]
  by_cases h0:0=h
  ·rw[if_pos h0,h0]
  ·rw[if_neg h0];simp
 ·rw[if_neg (fun h=>hh h.2),if_neg hh]
theorem aNs{r:bB}{k off len:Nat}{lo:bQd}{i:Option bQd}:iX PG 45 r (.ow k off len 1) (some lo) i none=(eM r 0 (some lo)).bind fun l=>(eM r len i).bind fun h=>if l<=h/\h<=len then(if l=h then(if l=0 then some (.ow k off 0 1)else some .em)else some (.ow k (off+l) (h-l) 1))else none:=by
 simp only[iX,eW,k1,if_true,s1,bJn]
theorem aTv{zs:List Nat}{j:Nat}(h:j<zs.length):(zs.map wc)[j]? =some (.int .u32 (zs.getD j 0:Nat)):=by simp [h,wc,bJb]
theorem aSf{zs:List Nat}{j x:Nat}(h:j<zs.length):gS [.int .u32 (x:Nat)] j (zs.map wc)=some ((zs.set j x).map wc):=by
 have c:(zs.map wc).length=zs.length:=bJB _
 simp only[gS,bIV,bJm,c]
 rw[if_pos (by omega)]
 congr 1
 rw[List.map_set,List.set_eq_take_append_cons_drop,if_pos (by rw[c];omega)]
 simp [wc]
theorem aFC{zs:List Nat}:(zs.map wc).length=zs.length:=bJB _
theorem bBy(zs:List Nat):dR (zs.map wc)=true:=(Can.map aG6 zs).1
theorem bHw(zs:List Nat):cL (zs.map wc)=zs.map wc:=(Can.map aG6 zs).2
theorem bHC(zs:List Nat):bW (zs.map wc)=2*zs.length+1:=by
 induction zs with
 |nil=>rfl
 |cons z zs ih=>simp only[bJu,bW,ih,bIV,wc,dA];omega
theorem aS9(zs:List Nat):kM (zs.map wc)=true:=by
 induction zs with
 |nil=>rfl
 |cons z zs ih=>simp only[bJu,kM,ih,wc,fU,bJv]
theorem xR{zs:List Nat}:jN (.im 1 (zs.map wc))=tW zs:=by
 cases zs with
 |nil=>rfl
 |cons z zs=>
  show(if ((z::zs).map wc).length=0/\0<1 then TV.em else .im 1 (cL ((z::zs).map wc)))=_
  rw[if_neg (by simp),bHw];rfl
theorem aFD{s:VS}{k off len:Nat}{zs:List Nat}(g:k<s.nxt)(d:s.ob k=⟨0,zs.map wc⟩)(c:off+len<=zs.length):dM s [.ow k off len 1]=some (.tp [tW ((zs.drop off).take len)],true):=by
 simp only[dM,d]
 rw[if_pos ⟨g,trivial,aS9 _,by rw[aFC];omega⟩,bJn,←List.map_drop,←bLD,xR]
theorem xC{s:VS}{k off len:Nat}{zs:List Nat}(g:k<s.nxt)(d:s.ob k=⟨0,zs.map wc⟩)(c:off+len<=zs.length)(m:len<40000000){n:Nat}(hn:90000000<=n):fE n s (.ow k off len 1)=some (.im 1 (((zs.drop off).take len).map wc),s.set k ⟨1,zs.map wc⟩):=by
 obtain⟨n,rfl⟩:∃j,n=j+1:=⟨n-1,by omega⟩
 unfold fE
 rw[if_pos ⟨g,by rw[d];exact fun h=>by cases h⟩,d]
 simp only
 have hc:jF (len*1) off (zs.map wc)=some (((zs.drop off).take len).map wc):=by
  simp only[jF,bJn,aFC,bLD,List.map_drop]
  rw[if_pos (by omega)]
 rw[hc]
 simp only[bIS]
 rw[(mY n).2 (bBy _) (by rw[bHC,bIW,bJj];omega)]
 rfl
theorem aOp{r:bB}{xs:List Nat}{lo i:Option bQd}:iX PG 45 r (tW xs) lo i none=(eM r 0 lo).bind fun l=>(eM r xs.length i).bind fun h=>if l<=h/\h<=xs.length then some (tW ((xs.drop l).take (h-l)))else none:=by
 cases xs with
 | nil=>
  simp only[tW,tL,iX,eW,k1,if_true,bLe,bJm]
  congr 1;funext l;congr 1;funext h
  by_cases hh:h=0
  ·subst hh
   by_cases c:l=0
   ·subst c;simp
   ·rw[if_neg (by omega),if_neg (by omega)]
  ·rw[if_neg (by omega),if_neg (by omega)]
 |cons x xs=>
  have e:tW (x::xs)= .im 1 ((x::xs).map wc):=rfl
  have B:((x::xs).map wc).length/1=(x::xs).length:=by simp
  rw[e]
  simp only[iX,eW,k1,if_true,s1,B]
  rw[if_pos ⟨trivial,by decide⟩]
  congr 1;funext l;congr 1;funext h
  simp only[bJn,bJB,tW,bLD,List.map_drop]
theorem oP{n:Nat}{s s1 y:VS}{a a':TV}{l l':List TV}(h1:fE n s a=some (a',s1))(h2:cX n s1 l=some (l',y)):cX (n+1) s (a::l)=some (a'::l',y):=by
 simp only[cX,h1,bIS,h2,bJk]
theorem aOo{n:Nat}{s:VS}{xs:List Nat}:fE (n+1) s (tW xs)=some (tW xs,s):=(mY (n+1)).1 (jB xs).1 (by rw[fJ];omega)
def RS(q:Option (TV×Bool))(R:TV):Prop:=q=some (.tp [R],true)\/(q=some (R,false)/\fU R=true)
theorem RS.fr{R:TV}:RS (some (.tp [R],true)) R:= .inl rfl
theorem RS.sc{R:TV}(h:fU R=true):RS (some (R,false)) R:= .inr ⟨rfl,h⟩
theorem aFa{f:FuncId}{orc:cN}{R:TV}{s s1:VS}{args args' args2:List TV}(h1:cX cK s args=some (args',s1))(h2:cL args'=args2)(hc:RS (orc f args2) R):fD orc f args s=some (R,s):=by
 unfold fD
 rw[h1]
 simp only[bIS,h2]
 rcases hc with hc|⟨hc,hs⟩
 ·simp only[hc,bIS,if_true,oN]
 ·simp only[hc,bIS,bIY,if_false,hs,if_true]
section
variable {f:FuncId}{orc:cN}{R:TV}{s:VS}{k off len:Nat}{zs ys:List Nat}
theorem aOl(hc:RS (orc f [tW ((zs.drop off).take len),tW ys]) R)(g:k<s.nxt)(d:s.ob k=⟨0,zs.map wc⟩)(c:off+len<=zs.length)(m:len<40000000):fD orc f [.ow k off len 1,tW ys] s=some (R,s):=
 aFa (oP (xC g d c m (by decide)) (oP (n:=99999998) aOo rfl)) (by simp only[cL,xR,(jB ys).2]) hc
theorem bA8{k2 off2 len2:Nat}(hc:RS (orc f [tW ((zs.drop off).take len),tW ((ys.drop off2).take len2)]) R)(g:k<s.nxt)(d:s.ob k=⟨0,zs.map wc⟩)(c:off+len<=zs.length)(m:len<40000000)(o:k2<s.nxt)(p:s.ob k2=⟨0,ys.map wc⟩)(u:off2+len2<=ys.length)(v:len2<40000000)(w:k2≠k):fD orc f [.ow k off len 1,.ow k2 off2 len2 1] s=some (R,s):=
 aFa (oP (xC g d c m (by decide)) (oP (n:=99999998) (xC (s:=s.set k ⟨1,zs.map wc⟩) o ((if_neg w).trans p) u v (by decide)) rfl)) (by simp only[cL,xR]) hc
theorem bBd{t:TV}(hc:RS (orc f [tW ((zs.drop off).take len),t]) R)(g:k<s.nxt)(d:s.ob k=⟨0,zs.map wc⟩)(c:off+len<=zs.length)(m:len<40000000)(A:cP t)(hs:dA t<=10000000):fD orc f [.ow k off len 1,t] s=some (R,s):=
 aFa (oP (xC g d c m (by decide)) (oP (n:=99999998) ((mY 99999998).1 A.1 (by omega)) rfl)) (by simp only[cL,xR,A.2]) hc
theorem aOQ(hc:RS (orc f [tW ys,tW ((zs.drop off).take len)]) R)(g:k<s.nxt)(d:s.ob k=⟨0,zs.map wc⟩)(c:off+len<=zs.length)(m:len<40000000):fD orc f [tW ys,.ow k off len 1] s=some (R,s):=
 aFa (oP (n:=99999999) aOo (oP (n:=99999998) (xC g d c m (by decide)) rfl)) (by simp only[cL,xR,(jB ys).2]) hc
end
theorem TT:type_of%(And.intro @cB' (And.intro @cW' (And.intro @cI' (And.intro @sB' (And.intro @sW' (And.intro @aMe (And.intro @aNs (And.intro @n64 (And.intro @n32 (And.intro @aTK (And.intro @aTL (And.intro @nii (And.intro @k1 (And.intro @kW (And.intro @kB' (And.intro @kI (And.intro @kR (And.intro @eW (And.intro @eR (And.intro @s1 (And.intro @sI (And.intro @sR (And.intro @a1 (And.intro @aW (And.intro @aB (And.intro @aI (And.intro @aR (And.intro @c1 (And.intro @wQ (And.intro @z1 (And.intro @zI (And.intro @zR (And.intro @fI0 (And.intro @fI1 (And.intro @fR0 (And.intro @fR1 (And.intro @bI (And.intro @bR' (And.intro @pI0 (And.intro @pI1 (And.intro @pR0 (And.intro @pR1 (And.intro @aMz (And.intro @aQs (And.intro @aTv (And.intro @aSf (And.intro @aFC (And.intro @aTu (And.intro @aPf (And.intro @aQg (And.intro @aOp (And.intro @aSm (And.intro @aSp (And.intro @aSV (And.intro @aSq (And.intro @aQo (And.intro @aFS (@aF5)))))))))))))))))))))))))))))))))))))))))))))))))))))))))):=(And.intro @cB' (And.intro @cW' (And.intro @cI' (And.intro @sB' (And.intro @sW' (And.intro @aMe (And.intro @aNs (And.intro @n64 (And.intro @n32 (And.intro @aTK (And.intro @aTL (And.intro @nii (And.intro @k1 (And.intro @kW (And.intro @kB' (And.intro @kI (And.intro @kR (And.intro @eW (And.intro @eR (And.intro @s1 (And.intro @sI (And.intro @sR (And.intro @a1 (And.intro @aW (And.intro @aB (And.intro @aI (And.intro @aR (And.intro @c1 (And.intro @wQ (And.intro @z1 (And.intro @zI (And.intro @zR (And.intro @fI0 (And.intro @fI1 (And.intro @fR0 (And.intro @fR1 (And.intro @bI (And.intro @bR' (And.intro @pI0 (And.intro @pI1 (And.intro @pR0 (And.intro @pR1 (And.intro @aMz (And.intro @aQs (And.intro @aTv (And.intro @aSf (And.intro @aFC (And.intro @aTu (And.intro @aPf (And.intro @aQg (And.intro @aOp (And.intro @aSm (And.intro @aSp (And.intro @aSV (And.intro @aSq (And.intro @aQo (And.intro @aFS (@aF5))))))))))))))))))))))))))))))))))))))))))))))))))))))))))
theorem S1:type_of%(And.intro @SS (And.intro @TT (And.intro @qX.eq_1 (And.intro @qX.eq_2 (And.intro @bG.eq_1 (And.intro @bG.eq_2 (And.intro @bG.eq_3 (And.intro @bG.eq_4 (And.intro @bG.eq_5 (And.intro @bG.eq_6 (And.intro @bG.eq_7 (And.intro @bG.eq_8 (And.intro @bG.eq_9 (And.intro @bG.eq_10 (And.intro @bG.eq_11 (And.intro @bG.eq_12 (And.intro @bG.eq_13 (And.intro @bG.eq_14 (And.intro @bG.eq_15 (And.intro @bG.eq_16 (And.intro @bG.eq_17 (And.intro @bG.eq_18 (And.intro @bG.eq_19 (And.intro @bG.eq_20 (And.intro @bG.eq_21 (And.intro @bG.eq_22 (And.intro @bG.eq_23 (And.intro @bG.eq_24 (And.intro @dV.eq_1 (And.intro @dV.eq_2 (And.intro @dV.eq_3 (And.intro @dV.eq_4 (And.intro @lN.eq_1 (And.intro @lN.eq_2 (And.intro @jJ.eq_1 (And.intro @jJ.eq_2 (And.intro @jJ.eq_3 (And.intro @jJ.eq_4 (And.intro @jJ.eq_5 (And.intro @jJ.eq_6 (And.intro @eM.eq_1 (And.intro @eM.eq_2 (And.intro @iO.eq_1 (And.intro @iO.eq_2 (And.intro @aAh.eq_1 (And.intro @aAh.eq_2 (And.intro @pU.eq_1 (And.intro @jF.eq_1 (@iI.eq_1))))))))))))))))))))))))))))))))))))))))))))))))):=(And.intro @SS (And.intro @TT (And.intro @qX.eq_1 (And.intro @qX.eq_2 (And.intro @bG.eq_1 (And.intro @bG.eq_2 (And.intro @bG.eq_3 (And.intro @bG.eq_4 (And.intro @bG.eq_5 (And.intro @bG.eq_6 (And.intro @bG.eq_7 (And.intro @bG.eq_8 (And.intro @bG.eq_9 (And.intro @bG.eq_10 (And.intro @bG.eq_11 (And.intro @bG.eq_12 (And.intro @bG.eq_13 (And.intro @bG.eq_14 (And.intro @bG.eq_15 (And.intro @bG.eq_16 (And.intro @bG.eq_17 (And.intro @bG.eq_18 (And.intro @bG.eq_19 (And.intro @bG.eq_20 (And.intro @bG.eq_21 (And.intro @bG.eq_22 (And.intro @bG.eq_23 (And.intro @bG.eq_24 (And.intro @dV.eq_1 (And.intro @dV.eq_2 (And.intro @dV.eq_3 (And.intro @dV.eq_4 (And.intro @lN.eq_1 (And.intro @lN.eq_2 (And.intro @jJ.eq_1 (And.intro @jJ.eq_2 (And.intro @jJ.eq_3 (And.intro @jJ.eq_4 (And.intro @jJ.eq_5 (And.intro @jJ.eq_6 (And.intro @eM.eq_1 (And.intro @eM.eq_2 (And.intro @iO.eq_1 (And.intro @iO.eq_2 (And.intro @aAh.eq_1 (And.intro @aAh.eq_2 (And.intro @pU.eq_1 (And.intro @jF.eq_1 (@iI.eq_1)))))))))))))))))))))))))))))))))))))))))))))))))
theorem N1:type_of%(And.intro @bKC.{0} (And.intro @aR8 (And.intro @aRa (And.intro @bMb.{0} (And.intro @List.elem_nil.{0} (And.intro @decide_true (And.intro @decide_false (And.intro @Bool.true_or (And.intro @Bool.or_true (And.intro @Bool.false_or (And.intro @bM5 (And.intro @bLl.{0} (And.intro @bKy.{0} (And.intro @bLL.{0} (@bIS.{0,0}))))))))))))))):=(And.intro @bKC.{0} (And.intro @aR8 (And.intro @aRa (And.intro @bMb.{0} (And.intro @List.elem_nil.{0} (And.intro @decide_true (And.intro @decide_false (And.intro @Bool.true_or (And.intro @Bool.or_true (And.intro @Bool.false_or (And.intro @bM5 (And.intro @bLl.{0} (And.intro @bKy.{0} (And.intro @bLL.{0} (@bIS.{0,0})))))))))))))))
theorem vJ{P:Program}{orc:cN}(f:FuncId)(h:cC f=false){n:Nat}{args:List TV}{s:VS}:fH P cC orc n f args s=fD orc f args s:=bCd h
end
end Go.Proofs.YtmjoaipkaddkbaaGreatDoor.Ev
namespace Go.Proofs.YtmjoaipkaddkbaaGreatDoor
section
theorem aLq{U V t h B q:Nat}(hU:U/B=t)(hV:h*B<=V)(hB:0<B)(hh:0<h)(hq:q*V<=U):q<=t/h:=by
 rw[bKV hh,←hU,bKV hB]
 calc q*h*B=q*(h*B):=bJ5 ..
  _<=q*V:=bJ7 _ hV
  _<=U:=hq
theorem aUK{U V U2 V2 B q d:Nat}(hU:U/B=U2)(hV:V2*B<=V)(hB:0<B)(hq:q*V<=U)(h:U2<d*V2):q<d:=by
 rcases bIT q d with h1|h1
 ·exact h1
 ·exfalso
  have h2:d*V2<=U2:=by
   rw[←hU,bKV hB]
   calc d*V2*B=d*(V2*B):=bJ5 ..
    _<=d*V:=bJ7 _ hV
    _<=q*V:=bJ8 _ h1
    _<=U:=hq
  omega
theorem aWq{U V U2 V2 B q d C:Nat}(hU:U2*B<=U)(hV:V<(V2+1)*B)(a:d*B<=C)(i:C<=V)(hq:U<(q+1)*V)(h:d*V2<=U2):d<=q+1:=by
 rcases bIT (q+1) d with h1|h1
 ·exfalso
  have c:(q+2)*V<=d*V:=bJ8 _ h1
  have e:d*V<=d*((V2+1)*B):=bJ7 _ (bJg hV)
  have f:d*((V2+1)*B)=d*V2*B+d*B:=by rw[bJp,bJ6,bKQ,bJ5]
  have g:d*V2*B<=U2*B:=bJ8 _ h
  have j:(q+2)*V=(q+1)*V+V:=by rw[bJp,bJp];omega
  omega
 ·exact h1
theorem aXx{U V t h B q d b:Nat}(hU:t*B<=U)(hV:V<=(h+1)*B)(a:d<=b)(k:d*h+b<=t)(hq:U<(q+1)*V):d<=q:=by
 rcases bIT q d with h1|h1
 ·exfalso
  have c:(q+1)*V<=d*V:=bJ8 _ h1
  have e:d*V<=d*((h+1)*B):=bJ7 _ hV
  have f:d*((h+1)*B)=(d*h+d)*B:=by rw[←bJ5,bJ6,bJn]
  have g:(d*h+d)*B<=t*B:=bJ8 _ (by omega)
  omega
 ·exact h1
end
section
theorem aCT(k:Nat):0<4294967296^k:=bJx (by omega)
theorem aVp(l:List Nat)(j:Nat):4294967296^j*l.getD j 0<=val l:=by
 by_cases h:j<l.length
 ·rw[oQ l j (by omega),oW l h,bJ6];omega
 ·rw[qF (by omega)];omega
theorem aHh{l:List Nat}{m j:Nat}(h:val l<4294967296^m)(g:m<=j):l.getD j 0=0:=by
 rcases bKF (l.getD j 0)with h0|h0
 ·exact h0
 ·exfalso
  have h1:=aVp l j
  have h2:4294967296^m<=4294967296^j:=bJ9 (by omega) g
  have o:4294967296^j*1<=4294967296^j*l.getD j 0:=bJ7 _ h0
  omega
theorem aOm{l:List Nat}(h:∀j,l.getD j 0=0):val l=0:=by
 induction l with
 |nil=>rfl
 |cons x l ih=>
  have h0:=h 0
  simp only[bMh]at h0
  rw[val,h0,ih fun j=>by simpa using h (j+1)]
theorem aI3{l l':List Nat}(h:∀j,l.getD j 0=l'.getD j 0):val l=val l':=by
 induction l generalizing l' with
 |nil=>rw[aOm (l:=l') fun j=>by rw[←h j];rfl];rfl
 | cons x l ih=>
  cases l' with
  |nil=>rw[aOm (l:=x::l) fun j=>by rw[h j];rfl];rfl
  |cons y l'=>
   have h0:=h 0
   simp only[bMh]at h0
   rw[val,val,h0,ih fun j=>by simpa using h (j+1)]
theorem uK(l:List Nat)(i j:Nat):(l.drop i).getD j 0=l.getD (i+j) 0:=by
 rw[bJb,List.getElem?_drop,bJb]
theorem aCA{l:List Nat}{m:Nat}(h:val l<4294967296^m):val (l.take m)=val l:=by
 apply aI3
 intro j
 by_cases g:j<m
 ·exact getD_take g
 ·rw[aHh h (by omega),qF (by rw[bIW];omega)]
def xO(X V k:Nat)(xs qs:List Nat):Prop:=X=V*(4294967296^k*val (qs.drop k))+val xs/\val (xs.drop k)<V
theorem aOr{X V k n:Nat}{xs:List Nat}(p:val xs=X)(v:k<=xs.length)(h:X<4294967296^k*V):xO X V k xs (bIQ n 0):=by
 refine⟨?_, ?_⟩
 ·rw[List.drop_replicate,aHk,p];simp
 ·rw[←p,oQ xs k v]at h
  apply Nat.lt_of_mul_lt_mul_left (a:=4294967296^k)
  omega
theorem aLg{X V i:Nat}{xs qs:List Nat}(d:bC xs)(q:i<xs.length)(h:xO X V (i+1) xs qs):val (xs.drop i)<V*4294967296:=by
 have h1:=h.2
 have h2:=d.getD i
 rw[oW xs q]
 have o:4294967296*(val (xs.drop (i+1))+1)<=4294967296*V:=bJ7 _ h1
 rw[bIX V]
 omega
theorem aN0{X V i:Nat}{xs qs us:List Nat}(h:xO X V (i+1) xs qs)(hq:i<qs.length)(q:i<xs.length)(G:us.length=xs.length)(w:us.take i=xs.take i)
  (r:val (us.drop i)=val (xs.drop i)%V) (hV:0<V):xO X V i us (qs.set i (val (xs.drop i)/V)):=by
 refine⟨?_,by rw[r];exact bJa _ hV⟩
 have z:(qs.set i (val (xs.drop i)/V)).drop i=(val (xs.drop i)/V)::qs.drop (i+1):=by
  rw[aA3 _ (by simp;omega),bMg,if_pos (by omega),uJ hq]
 rw[h.1,z,val,oQ us i (by omega),w,r,oQ xs i (by omega),bJ1]
 have h2:=bK4 (val (xs.drop i)) V
 generalize val (xs.drop i)/V=Q at*
 generalize val (xs.drop i)%V=R at*
 rw[←h2]
 generalize 4294967296^i=B at*
 generalize val (qs.drop (i+1))=D at*
 simp only[bJ6]
 have f:V*(B*4294967296*D)=V*(B*(4294967296*D)):=by rw[bJ5]
 have A:B*(V*Q)=V*(B*Q):=by rw[bLN]
 rw[f,A]
 omega
theorem aQB{X V:Nat}{xs qs:List Nat}(h:xO X V 0 xs qs):val qs=X/V/\val xs=X%V:=by
 obtain⟨h1,h2⟩:=h
 simp only[bJd,Nat.pow_zero,bKQ]at h1 h2
 have hV:0<V:=by omega
 rw[h1,Nat.mul_add_div hV,bKs h2,Nat.mul_add_mod,bJo h2]
 exact⟨by omega,rfl⟩
theorem aLV{b m:Nat}(H:(aO b).length=m+1):∃s,s<32/\32*(m+1)-(32*m+blen ((aO b).getD m 0))=s/\blen ((aO b).getD m 0)<=32/\4294967296^m*2147483648<=b*2^s/\b*2^s<4294967296^(m+1):=by
 have d:=cV b
 have c:(aO b).getD m 0≠0:=by
  intro h0
  have h1:val (aO b)<4294967296^m:=by
   rw[oQ (aO b) m (by omega),oW (aO b) (by omega),bKW (by omega),h0]
   have:=iY (d.take m)
   rw[bIW,bJc (by omega)]at this
   simpa [val]using this
  rw[cO]at h1
  have:=lY h1
  omega
 have C:=d.getD m
 have e:b=val ((aO b).take m)+4294967296^m*(aO b).getD m 0:=by
  have:=oQ (aO b) m (by omega)
  rw[cO,oW (aO b) (by omega),bKW (by omega)]at this
  simpa [val]using this
 have u:val ((aO b).take m)<4294967296^m:=by
  have:=iY (d.take m)
  rwa [bIW,bJc (by omega)]at this
 generalize (aO b).getD m 0=t at*
 have h1:=aL0 t
 have h2:=aKY c
 have o:=aBP (k:=32) (x:=t) (by omega)
 have I:1<=blen t:=by rw[aAa c];omega
 refine⟨32-blen t,by omega,by omega,o, ?_, ?_⟩
 ·have f:2^(blen t-1)*2^(32-blen t)=2147483648:=by rw[←bK7,show blen t-1+(32-blen t)=31 by omega]
  rw[e]
  calc 4294967296^m*2147483648=4294967296^m*(2^(blen t-1)*2^(32-blen t)):=by rw[f]
   _=(4294967296^m*2^(blen t-1))*2^(32-blen t):=by rw[bJ5]
   _<=(4294967296^m*t)*2^(32-blen t):=bJ8 _ (bJ7 _ h2)
   _<=_:=bJ8 _ (by omega)
 ·have f:2^blen t*2^(32-blen t)=4294967296:=by rw[←bK7,show blen t+(32-blen t)=32 by omega]
  have E:b<4294967296^m*2^blen t:=by
   have:4294967296^m*(t+1)<=4294967296^m*2^blen t:=bJ7 _ h1
   rw[bJ6]at this
   omega
  calc b*2^(32-blen t)<(4294967296^m*2^blen t)*2^(32-blen t):=bMi E (bJx (by omega))
   _=4294967296^m*(2^blen t*2^(32-blen t)):=by rw[bJ5]
   _=4294967296^(m+1):=by rw[f,bJ1]
theorem aLX{a b m n s:Nat}(hn:(aO a).length=n)(F:m+1<=n)(hs:s<32)(hV:4294967296^m*2147483648<=b*2^s):a*2^s<4294967296^(n-m)*(b*2^s):=by
 have h1:a<4294967296^n:=by
  have:=iY (cV a)
  rwa [cO,hn]at this
 have h2:2^s<=2^31:=bJ9 (by omega) (by omega)
 calc a*2^s<4294967296^n*2^s:=bMi h1 (bJx (by omega))
  _<=4294967296^n*2147483648:=bJ7 _ (by omega)
  _=4294967296^(n-m)*(4294967296^m*2147483648):=by rw[←bJ5,←bK7,show n-m+m=n by omega]
  _<=_:=bJ7 _ hV
theorem aKZ{V m:Nat}(h1:4294967296^m<=V)(h2:V<4294967296^(m+1)):(aO V).length=m+1:=by
 have:=lY h2
 have:=aKW h1
 omega
end
section
theorem ofInt_u64(a:Nat)(c:a<18446744073709551616):(BitVec.ofInt 64 (a:Int)).toNat=a:=by
 rw[BitVec.ofInt_natCast,BitVec.toNat_ofNat];exact bJo (by omega)
theorem u64_or_nat(a b:Nat)(c:a<18446744073709551616)(d:b<18446744073709551616):bits .or .u64 (a:Int) (b:Int)=((a|||b:Nat):Int):=by
 have hx:a|||b<2^64:=Nat.or_lt_two_pow (by omega) (by omega)
 show IntKind.u64.wrap ((BitVec.ofInt 64 (a:Int)|||BitVec.ofInt 64 (b:Int)).toNat:Int)=_
 rw[BitVec.toNat_or,ofInt_u64 a c,ofInt_u64 b d,IntKind.wrap_u64]
 omega
theorem aHO(a b:Nat)(c:a<4294967296)(d:b<4294967296):bits .or .u64 ((a:Int)*4294967296) (b:Int)=((b+4294967296*a:Nat):Int):=by
 have h1:(a:Int)*4294967296=((a*4294967296:Nat):Int):=by omega
 rw[h1,u64_or_nat _ _ (by omega) (by omega)]
 have h2:=bMe (i:=32) (b:=b) (by omega) a
 have e:a*4294967296=2^32*a:=by omega
 rw[e,←h2]
 omega
end
section
theorem aJs{xs zs:List Nat}{n r j:Nat}(w:j<xs.length)(f:zs.length=xs.length)(h:val (xs.drop (j+1))=n*val (zs.drop (j+1))+r):
  val (xs.drop j)=n*val ((zs.set j ((xs.getD j 0+4294967296*r)/n)).drop j)+(xs.getD j 0+4294967296*r)%n:=by
 have G:(zs.set j ((xs.getD j 0+4294967296*r)/n)).drop j=((xs.getD j 0+4294967296*r)/n)::zs.drop (j+1):=by
  rw[aA3 _ (by simp;omega),bMg,if_pos (by omega)]
  congr 1
  rw[bJb,List.getElem?_set_self (by omega)];rfl
 rw[oW xs w,G,val,h]
 have:=bK4 (xs.getD j 0+4294967296*r) n
 rw[bJ6,bJ6,←bJ5,bIX 4294967296 n,bJ5]
 omega
theorem aGg{ρ x n:Nat}(hρ:ρ<n)(hx:x<4294967296):(x+4294967296*ρ)/n<4294967296:=by
 apply bKJ
 have:4294967296*(ρ+1)<=4294967296*n:=bJ7 _ hρ
 rw[bIX n];omega
theorem jO{zs:List Nat}(h:bC zs){j y:Nat}(g:y<4294967296):bC (zs.set j y):=by
 intro x hx
 rcases List.mem_or_eq_of_mem_set hx with hx|rfl
 ·exact h x hx
 ·exact g
theorem qD(n:Nat):bC (bIQ n 0):=by
 intro x hx
 rw[List.eq_of_mem_replicate hx];omega
def aAf(xs:List Nat):Nat:=if xs.length=0 then 0 else 32*(xs.length-1)+blen (xs.getD (xs.length-1) 0)
theorem aNT{x s:Nat}(hs:s<32)(hx:x<4294967296):x*2^s<18446744073709551616:=by
 have h1:2^s<=2^31:=bJ9 (by omega) (by omega)
 have h2:x*2^s<=4294967296*2^31:=bKl (by omega) h1
 omega
theorem aMx{xs zs:List Nat}{k s:Nat}(hs:s<32)(a:k<xs.length)(hx:xs.getD k 0<4294967296)(h1:zs.length=xs.length+1)(h2:bC zs)(A:zs.getD k 0<2^s)(C:∀j,k<j->zs.getD j 0=0)(D:val (zs.take (k+1))=val (xs.take k)*2^s):
  ((zs.set k (zs.getD k 0+xs.getD k 0*2^s%4294967296)).set (k+1) (xs.getD k 0*2^s/4294967296)).length=xs.length+1/\
  bC ((zs.set k (zs.getD k 0+xs.getD k 0*2^s%4294967296)).set (k+1) (xs.getD k 0*2^s/4294967296))/\
  ((zs.set k (zs.getD k 0+xs.getD k 0*2^s%4294967296)).set (k+1) (xs.getD k 0*2^s/4294967296)).getD (k+1) 0<2^s/\
  (∀j,k+1<j->((zs.set k (zs.getD k 0+xs.getD k 0*2^s%4294967296)).set (k+1) (xs.getD k 0*2^s/4294967296)).getD j 0=0)/\
  val (((zs.set k (zs.getD k 0+xs.getD k 0*2^s%4294967296)).set (k+1) (xs.getD k 0*2^s/4294967296)).take (k+1+1))=val (xs.take (k+1))*2^s:=by
 obtain⟨s1,H,I⟩:=aZU hs hx A
 have hq:2^s<=2^31:=bJ9 (by omega) (by omega)
 refine⟨by simp [h1],jO (jO h2 s1) (by omega), ?_,fun j w=> ?_, ?_⟩
 ·rw[uJ (by simp [h1];omega)];exact H
 ·rw[getD_set_ne (by omega),getD_set_ne (by omega)];exact C j (by omega)
 ·rw[aEm (by simp [h1];omega),aEm (by omega),aEl xs a]
  rw[aEl zs (by omega)]at D
  rw[bJp,←D,bJ1]
  generalize 4294967296^k=B at*
  generalize xs.getD k 0=x at*
  generalize zs.getD k 0=z at*
  have e:B*(z+x*2^s%4294967296)+B*4294967296*(x*2^s/4294967296)=B*(z+x*2^s):=by
   rw[bJ5,←bJ6,I]
  rw[bKu,e,bJ6,bJ5]
  omega
theorem aEM{xs zs:List Nat}{s k v:Nat}(a:k<zs.length)(h:∀j,j<k->zs.getD j 0=qN xs s j)(J:qN xs s k=v):∀j,j<k+1->(zs.set k v).getD j 0=qN xs s j:=by
 intro j w
 by_cases e:j=k
 ·subst e;rw[uJ a,J]
 ·rw[getD_set_ne (by omega)];exact h j (by omega)
theorem aWo{X Y B x y b d:Nat}{o:Nat}(hx:x<4294967296)(g:y<4294967296)(E:b<=1)(N:d=x+4294967296-y-b)(F:o=d%4294967296){Z:Nat}(h:Z+Y=X+B*b):
  Z+B*o+(Y+B*y)=X+B*x+B*4294967296*(1-d/4294967296)/\1-d/4294967296<=1:=by
 have e:o+y+b=x+4294967296*(1-d/4294967296):=by omega
 have u:=congrArg (B* ·) e
 simp only[bJ6]at u
 refine⟨?_,by omega⟩
 rw[bJ5]
 omega
theorem aLi{xs ys zs:List Nat}{k b:Nat}(a:k<zs.length)(hx:xs.getD k 0<4294967296)(g:ys.getD k 0<4294967296)(E:b<=1)(h:val (zs.take k)+val (ys.take k)=val (xs.take k)+4294967296^k*b):
  val ((zs.set k ((xs.getD k 0+4294967296-ys.getD k 0-b)%4294967296)).take (k+1))+val (ys.take (k+1))=val (xs.take (k+1))+4294967296^(k+1)*(1-(xs.getD k 0+4294967296-ys.getD k 0-b)/4294967296):=by
 rw[aEm a,nT,nT,bJ1]
 exact(aWo hx g E rfl rfl h).1
theorem aLx{c o x y:Nat}(hc:c<4294967296)(F:o<4294967296)(hx:x<4294967296)(g:y<4294967296):x*y<=18446744065119617025/\c+o+x*y<18446744073709551616:=by
 have h:x*y<=4294967295*4294967295:=bKl (by omega) (by omega)
 omega
theorem aLk{zs ys:List Nat}{i k c x T:Nat}(a:i+k<zs.length)(h:val zs+4294967296^(i+k)*c=T+4294967296^i*x*val (ys.take k)):
  val (zs.set (i+k) ((c+zs.getD (i+k) 0+x*ys.getD k 0)%4294967296))+4294967296^(i+(k+1))*((c+zs.getD (i+k) 0+x*ys.getD k 0)/4294967296)=T+4294967296^i*x*val (ys.take (k+1)):=by
 have h1:=aJ3 a ((c+zs.getD (i+k) 0+x*ys.getD k 0)%4294967296)
 rw[nT,bJ6,←bKu T,←h]
 have e:4294967296^i*x*(4294967296^k*ys.getD k 0)=4294967296^(i+k)*(x*ys.getD k 0):=by
  rw[bK7]
  rw[bJ5,bJ5,bLN x]
 rw[e,show i+(k+1)=i+k+1 by omega,bJ1]
 generalize 4294967296^(i+k)=B at*
 generalize x*ys.getD k 0=p at*
 generalize zs.getD (i+k) 0=o at*
 have u:B*((c+o+p)%4294967296)+B*4294967296*((c+o+p)/4294967296)=B*c+B*o+B*p:=by
  rw[bJ5,←bJ6,←bJ6,←bJ6]
  congr 1
  omega
 omega
theorem aLw{zs xs ys:List Nat}{i c:Nat}(K:i<xs.length)(f:zs.length=xs.length+ys.length)(h0:zs.getD (i+ys.length) 0=0)
  (h:val zs+4294967296^(i+ys.length)*c=val (xs.take i)*val ys+4294967296^i*xs.getD i 0*val (ys.take ys.length)):
  val (zs.set (i+ys.length) c)=val (xs.take (i+1))*val ys:=by
 have h1:=aJ3 (xs:=zs) (j:=i+ys.length) (by omega) c
 rw[h0,bKK,bJD,h,bJy]at h1
 rw[h1,aEl xs K,bJp]
theorem oO{m n:Nat}(h:m<=n):(aO m).length<=(aO n).length:=by
 rcases bIT (aO n).length (aO m).length with h1|h1
 ·have:=aHg h1;omega
 ·exact h1
theorem aO5{xs:List Nat}{k:Nat}(f:xs.length=k+2)(l:bC xs):val xs/4294967296^k=xs.getD k 0+4294967296*xs.getD (k+1) 0:=by
 have h0:0<4294967296^k:=bJx (by omega)
 have h1:val (xs.take k)<4294967296^k:=by
  have:=iY (l.take k)
  rwa [bIW,bJc (by omega)]at this
 rw[oQ xs k (by omega),bLM _ _ h0,bKs h1,bJl,oW xs (by omega),oW xs (by omega),bKW (by omega)]
 simp [val]
theorem bBP{ys:List Nat}{k:Nat}(f:ys.length=k+1):ys.getD k 0*4294967296^k<=val ys:=by
 rw[oQ ys k (by omega),oW ys (by omega),bKW (by omega),bIX]
 simp [val]
theorem aLp{ys:List Nat}{k:Nat}(f:ys.length=k+1)(l:bC ys):val ys<(ys.getD k 0+1)*4294967296^k:=by
 have h1:val (ys.take k)<4294967296^k:=by
  have:=iY (l.take k)
  rwa [bIW,bJc (by omega)]at this
 rw[oQ ys k (by omega),oW ys (by omega),bKW (by omega),bJp,bKQ,bIX (ys.getD k 0)]
 simp [val];omega
theorem aQn{V k:Nat}(f:(aO V).length=k+1):0<(aO V).getD k 0:=by
 rcases bIT 0 ((aO V).getD k 0)with h|h
 ·exact h
 ·exfalso
  have h1:=aLp f (cV V)
  have h2:(aO V).getD k 0=0:=by omega
  rw[h2,cO]at h1
  have:=lY (n:=V) (k:=k) (by simpa using h1)
  omega
theorem aVf{xs:List Nat}{V k:Nat}(f:xs.length=k+2)(l:bC xs)(a:(aO V).length=k+1):
  val xs/V<=(xs.getD k 0+4294967296*xs.getD (k+1) 0)/(aO V).getD k 0:=by
 have h1:=bBP a
 rw[cO]at h1
 exact aLq (aO5 f l) h1 (bJx (by omega)) (aQn a) (bLf _ _)
theorem aLH{us xs ds:List Nat}{j p n y:Nat}(f:us.length=n+1)(L:j+p<n+1)(A:∀t,t<p->us.getD (j+t) 0=ds.getD t 0)(C:∀t,(t<j\/j+p<=t)->us.getD t 0=xs.getD t 0)(g:ds.getD p 0=y):
  (us.set (j+p) y).length=n+1/\(∀t,t<p+1->(us.set (j+p) y).getD (j+t) 0=ds.getD t 0)/\(∀t,(t<j\/j+(p+1)<=t)->(us.set (j+p) y).getD t 0=xs.getD t 0):=by
 refine⟨by simp [f],fun t M=> ?_,fun t M=> ?_⟩
 ·by_cases e:t=p
  ·subst e;rw[uJ (by omega),g]
  ·rw[getD_set_ne (by omega)];exact A t (by omega)
 ·rw[getD_set_ne (by omega)];exact C t (by omega)
theorem aIH(p q:Nat):Nat.gcd q (p%q)=Nat.gcd p q:=by
 rw[Nat.gcd_comm p q,Nat.gcd_rec q p,Nat.gcd_comm]
theorem aYW{Z X Y B c x y o:Nat}(F:o=(c+x+y)%4294967296)(h:Z+B*c=X+Y):
  Z+B*o+B*4294967296*((c+x+y)/4294967296)=X+B*x+(Y+B*y):=by
 have e:o+4294967296*((c+x+y)/4294967296)=c+x+y:=by omega
 have u:=congrArg (B* ·) e
 simp only[bJ6]at u
 rw[bJ5]
 omega
theorem aVR{xs ys zs:List Nat}{k c:Nat}(a:k<zs.length)(h:val (zs.take k)+4294967296^k*c=val (xs.take k)+val (ys.take k)):
  val ((zs.set k ((c+xs.getD k 0+ys.getD k 0)%4294967296)).take (k+1))+4294967296^(k+1)*((c+xs.getD k 0+ys.getD k 0)/4294967296)=val (xs.take (k+1))+val (ys.take (k+1)):=by
 rw[aEm a,nT,nT,bJ1]
 exact aYW rfl h
end
end Go.Proofs.YtmjoaipkaddkbaaGreatDoor
namespace Go.Proofs.YtmjoaipkaddkbaaGreatDoor.Ev
section
variable {m:Nat}
theorem aJ4:bQ PG 65 f65 [2] []=true:=by kernel_rfl
theorem bGE{xs:List Nat}(j:xs.length<10000000):VX (m+1) 65 [tW xs]=some (tW (cG xs),false):=by
 refine bY rfl func65 aJ4 rfl ?_
 simp only[f65,N1,bD,bJ,bM,bL,bH,zB,zG]
 simp (disch:=first|rfl|omega)only[S1,aC,aE,aM,aJ,zB]
 refine .loop (fun n e s=>s=eA/\n<=xs.length/\e 0=some (tW (xs.take n))/\cG (xs.take n)=cG xs) xs.length ⟨rfl,bIK _, ?_,by simp⟩ (dC j) ?_
 ·simp
  rfl
 ·rintro n e s ⟨rfl,hn,f,g⟩
  have d:(xs.take n).length=n:=by simp;omega
  simp (disch:=first|rfl|omega)only[S1,aN,aC,aE,aM,aJ,zB,f,d]
  refine rR (fun h=> ?_) (fun h=> ?_)
  ·have h0:=of_decide_eq_true h
   simp (disch:=first|rfl|omega)only[S1,aN,aC,aE,aM,aJ,zB,f,d,h,getD_take]
   refine cJ (fun h1=> ?_) (fun h1=> ?_)
   ·have c:=of_decide_eq_true h1
    simp (disch:=first|rfl|omega)only[S1,aN,aC,aE,aM,aJ,zB,f,d]
    refine⟨n-1,by omega,by omega, ?_, ?_⟩
    ·rw[bJC,bJc (by omega)];rfl
    ·rw[←g,show n=(n-1)+1 by omega]
     exact(wU (by omega) c).symm
   ·have c:=of_decide_eq_false h1
    simp (disch:=first|rfl|omega)only[S1,zB,reduceCtorEq,f]
    have:=wW (k:=n-1) (by omega) c
    rw[show n-1+1=n by omega]at this
    rw[←g,mW (xs.take n),this,bJC,bMj]
  ·have h0:=of_decide_eq_false h
   have o:n=0:=by omega
   subst o
   simp (disch:=first|rfl|omega)only[S1,aC,aE,aM,aJ,zB,reduceCtorEq,zG,f]
   rw[←g];rfl
theorem bD2{xs:List Nat}{s:VS}{orc:cN}{n:Nat}(j:xs.length<10000000):fH PG cC orc (n+1) 65 [tW xs] s=some (tW (cG xs),s):=by
 refine aFo rfl func65 aJ4 rfl ?_
 simp only[f65,N1,bD,bJ,bM,bL,bH,zB,zG]
 simp (disch:=first|rfl|omega)only[S1,aH,aC,aE,aM,aJ,zB]
 refine .loop (fun n e s'=>s'=s/\n<=xs.length/\e 0=some (tW (xs.take n))/\cG (xs.take n)=cG xs) xs.length ⟨rfl,bIK _, ?_,by simp⟩ (dC j) ?_
 ·simp
  rfl
 ·rintro n e s ⟨rfl,hn,f,g⟩
  have d:(xs.take n).length=n:=by simp;omega
  simp (disch:=first|rfl|omega)only[S1,aN,aC,aE,aM,aJ,zB,f,d]
  refine rR (fun h=> ?_) (fun h=> ?_)
  ·have h0:=of_decide_eq_true h
   simp (disch:=first|rfl|omega)only[S1,aN,aC,aE,aM,aJ,zB,f,d,h,getD_take]
   refine cJ (fun h1=> ?_) (fun h1=> ?_)
   ·have c:=of_decide_eq_true h1
    simp (disch:=first|rfl|omega)only[S1,aN,aC,aE,aM,aJ,zB,f,d]
    refine⟨n-1,by omega,by omega, ?_, ?_⟩
    ·rw[bJC,bJc (by omega)];rfl
    ·rw[←g,show n=(n-1)+1 by omega]
     exact(wU (by omega) c).symm
   ·have c:=of_decide_eq_false h1
    simp (disch:=first|rfl|omega)only[S1,zB,reduceCtorEq,f]
    have:=wW (k:=n-1) (by omega) c
    rw[show n-1+1=n by omega]at this
    rw[←g,mW (xs.take n),this,bJC,bMj]
  ·have h0:=of_decide_eq_false h
   have o:n=0:=by omega
   subst o
   simp (disch:=first|rfl|omega)only[S1,aC,aE,aM,aJ,zB,reduceCtorEq,zG,f]
   rw[←g];rfl
theorem aRz{xs:List Nat}{s:VS}{orc:cN}(j:xs.length<10000000):fH PG cC orc lA 65 [tW xs] s=some (tW (cG xs),s):=bD2 (n:=7) j
theorem aPr{zs:List Nat}{k off len:Nat}{s:VS}{orc:cN}{n:Nat}(p:len<10000000)(i:k<s.nxt)(l:s.ob k=⟨0,zs.map wc⟩)(j:off+len<=zs.length):fH PG cC orc (n+1) 65 [.ow k off len 1] s=some (.ow k off (cG ((zs.drop off).take len)).length 1,s):=by
 refine aFo rfl func65 aJ4 rfl ?_
 simp only[f65,N1,bD,bJ,bM,bL,bH,zB,zG]
 simp (disch:=first|rfl|omega)only[S1,aH,aC,aE,aM,aJ,zB]
 refine .loop (fun n e s'=>s'=s/\n<=len/\e 0=some (.ow k off n 1)/\cG ((zs.drop off).take n)=cG ((zs.drop off).take len)) len ⟨rfl,bIK _,rfl,rfl⟩ (dC p) ?_
 rintro n e s ⟨rfl,hn,f,g⟩
 simp (disch:=first|rfl|omega)only[S1,aN,aC,aE,aM,aJ,zB,f]
 refine rR (fun h=> ?_) (fun h=> ?_)
 ·have h0:=of_decide_eq_true h
  have w:zs.getD (off+(n-1)) 0=(zs.drop off).getD (n-1) 0:=by rw[uK]
  simp (disch:=first|rfl|omega)only[S1,aN,aC,aE,aM,aJ,zB,reduceCtorEq,f,h,l]
  refine cJ (fun h1=> ?_) (fun h1=> ?_)
  ·have c:=of_decide_eq_true h1
   simp (disch:=first|rfl|omega)only[S1,aN,aC,aE,aM,aJ,zB,f]
   refine⟨n-1,by omega,by omega,rfl, ?_⟩
   rw[←g,show n=(n-1)+1 by omega]
   exact(wU (by simp;omega) (w ▸ c)).symm
  ·have c:=of_decide_eq_false h1
   simp (disch:=first|rfl|omega)only[S1,zB,reduceCtorEq,f]
   have:=wW (xs:=zs.drop off) (k:=n-1) (by simp;omega) (w ▸ c)
   rw[show n-1+1=n by omega]at this
   rw[←g,this]
 ·have h0:=of_decide_eq_false h
  have o:n=0:=by omega
  subst o
  simp only[Nat.lt_irrefl,decide_false]at h ⊢
  simp (disch:=first|rfl|omega)only[S1,aC,aE,aM,aJ,zB,reduceCtorEq,f]
  rw[←g];rfl
theorem aYl:bQ PG 63 f63 [4] []=true:=by kernel_rfl
theorem bBE{n:Bool}{xs:List Nat}(j:xs.length<10000000):VX (m+2) 63 [.b n,tW xs]=some (.ag (ci (n&&decide (0<(cG xs).length)) (cG xs)),false):=by
 refine bY rfl func63 aYl rfl ?_
 simp only[f63,N1,bD,bJ,bM,bL,bH,zB,zG]
 simp (disch:=first|rfl|omega)only[S1,zB,zD]
 cases n<;>simp (disch:=first|rfl|omega)only[S1,aN,aC,aE,aM,aJ,aD,zB,reduceCtorEq,zD,zG,zH,aRz]
theorem aQJ{zs:List Nat}{k off len:Nat}{s:VS}{orc:cN}(p:len<10000000)(i:k<s.nxt)(l:s.ob k=⟨0,zs.map wc⟩)(j:off+len<=zs.length):fH PG cC orc lA 65 [.ow k off len 1] s=some (.ow k off (cG ((zs.drop off).take len)).length 1,s):=aPr (n:=7) p i l j
theorem uS{zs:List Nat}{k len:Nat}{s:VS}{orc:cN}(i:k<s.nxt)(l:s.ob k=⟨0,zs.map wc⟩)(j:zs.length=len)(p:len<10000000):fH PG cC orc lA 65 [.ow k 0 len 1] s=some (.ow k 0 (cG zs).length 1,s):=by
 rw[aQJ p i l (by omega),bJd,bJ2 (by omega)]
theorem xB{zs:List Nat}{k:Nat}{s:VS}(i:k<s.nxt)(l:s.ob k=⟨0,zs.map wc⟩):dM s [.ow k 0 (cG zs).length 1]=some (.tp [tW (cG zs)],true):=by
 have:=qC zs
 rw[aFD i l (by omega),bJd,←mW]
theorem aZX{s:VS}{k off len:Nat}{zs:List Nat}{t:TV}(i:k<s.nxt)(l:s.ob k=⟨0,zs.map wc⟩)(j:off+len<=zs.length)(p:len<40000000)(g:cP t)(hs:dA t<=10000000):dM s [.ow k off len 1,t]=some (.tp [tW ((zs.drop off).take len),t],false):=by
 simp only[dM,l]
 rw[if_neg (fun h=>by rw[aS9]at h;exact absurd h.2.2.2.2.2 (by decide))]
 rw[show cK=99999999+1 from rfl,oP (xC i l j p (by decide)) (oP (n:=99999998) ((mY 99999998).1 g.1 (by omega)) rfl)]
 simp only[bJk,cL,xR,g.2]
theorem aHB{zs:List Nat}{k:Nat}{s:VS}{t:TV}(i:k<s.nxt)(l:s.ob k=⟨0,zs.map wc⟩)(p:zs.length<40000000)(g:cP t)(hs:dA t<=10000000):dM s [.ow k 0 (cG zs).length 1,t]=some (.tp [tW (cG zs),t],false):=by
 have:=qC zs
 rw[aZX i l (by omega) (by omega) g hs,bJd,←mW]
theorem aOS{a b:Nat}(y:a<4294967296)(p:b<4294967296):cG [a,b]=aO (a+4294967296*b):=by
 have:=iB (xs:=[a,b]) (bC.cons y (bC.cons p bC.nil))
 rw[this]
 simp [val]
theorem aZC:bQ PG 64 f64 [2] []=true:=by kernel_rfl
theorem bDF{n:Nat}(hn:n<18446744073709551616):VX (m+2) 64 [.int .u64 (n:Nat)]=some (.tp [tW (aO n)],true):=by
 refine bY rfl func64 aZC rfl ?_
 simp only[f64,N1,bD,bJ,bM,bL,bH,zB,zG]
 simp (disch:=first|rfl|omega)only[S1,aC,aE,aM,aJ,aD,zB,zE,zH]
 simp (disch:=first|rfl|omega)only[S1,zB,bK9,List.replicate_zero,bJu,bLe]
 rw[uS (zs:=[n%4294967296,n/4294967296%4294967296]) (len:=2) bKX rfl rfl (by decide)]
 simp (disch:=first|rfl|omega)only[S1,zB,reduceCtorEq]
 rw[xB bKX rfl,aOS (by omega) (by omega),show n%4294967296+4294967296*(n/4294967296%4294967296)=n by omega]
theorem aFv{n:Nat}(hn:n<18446744073709551616):CC (VX (m+2)) 64 [.int .u64 (n:Nat)] (tW (aO n)):= .fr (Can.cons (cP.int _ _) Can.nil) (by simp only[bW,dA];decide) (bDF hn)
theorem aW9:bQ PG 68 f68 [4,40,31,20] []=true:=by kernel_rfl
theorem aN9{xs ys:List Nat}(hx:xs.length<10000000)(lx:bC xs)(ly:bC ys):VX (m+1) 68 [tW xs,tW ys]=some (.int .i64 (nI xs ys),false):=by
 refine bY rfl func68 aW9 rfl ?_
 simp only[f68,N1,bD,bJ,bM,bL,bH,zB,zG]
 simp (disch:=first|rfl|omega)only[S1,aN,aC,aE,aM,aJ,zB,zD]
 refine cJ (fun h=> ?_) (fun h=> ?_)
 ·have h':xs.length≠ys.length:=by simpa using h
  simp (disch:=first|rfl|omega)only[S1,aN,zB]
  refine cJ (fun h1=> ?_) (fun h1=> ?_)
  ·have c:=of_decide_eq_true h1
   simp (disch:=first|rfl|omega)only[S1,aC,aE,aM,aJ,zB,reduceCtorEq]
   rw[aMd c]
  ·have c:=of_decide_eq_false h1
   simp (disch:=first|rfl|omega)only[S1,aC,aE,aM,aJ,zB,reduceCtorEq]
   rw[aNo (by omega)];rfl
 ·have h':xs.length=ys.length:=by simpa using h
  simp (disch:=first|rfl|omega)only[S1,aN,aC,aE,aM,aJ,zB]
  refine .loop (fun n e s=>s=eA/\n<=xs.length/\e 0=some (tW xs)/\e 1=some (tW ys)/\e 5=some (.int .i64 (iz n))/\xs.drop n=ys.drop n) xs.length ?_ (dC hx) ?_
  ·simp (disch:=first|rfl|omega)only[S1,zB]
   simp [h']
  ·rintro n e s ⟨rfl,hn,e0,r,u,x⟩
   simp (disch:=first|rfl|omega)only[S1,aC,aE,aM,aJ,zB,u]
   refine cJ (fun h=> ?_) (fun h=> ?_)
   ·have h0:=of_decide_eq_true h
    have i:n-1<xs.length:=by omega
    have q:xs.drop (n-1+1)=ys.drop (n-1+1):=by rw[show n-1+1=n by omega];exact x
    simp (disch:=first|rfl|omega)only[S1,zB,e0,r,u]
    refine cJ (fun h1=> ?_) (fun h1=> ?_)
    ·have c:=of_decide_eq_true h1
     simp (disch:=first|rfl|omega)only[S1,aC,aE,aM,aJ,zB,reduceCtorEq]
     rw[aMr lx h' i q c]
    ·have c:=of_decide_eq_false h1
     simp (disch:=first|rfl|omega)only[S1,zB,e0,r,u]
     refine cJ (fun h2=> ?_) (fun h2=> ?_)
     ·have v:=of_decide_eq_true h2
      simp (disch:=first|rfl|omega)only[S1,aC,aE,aM,aJ,zB,reduceCtorEq]
      rw[aMF ly h' i q v];rfl
     ·have v:=of_decide_eq_false h2
      simp (disch:=first|rfl|omega)only[S1,aC,aE,aM,aJ,zB,e0,r,u]
      exact⟨n-1,by omega,by omega,rfl,by rw[aA3 xs i,aA3 ys (by omega),q,show xs.getD (n-1) 0=ys.getD (n-1) 0 by omega]⟩
   ·have h0:=of_decide_eq_false h
    obtain rfl:n=0:=by omega
    simp (disch:=first|rfl|omega)only[S1,aC,aE,aM,aJ,zB,reduceCtorEq,zG]
    have:xs=ys:=x
    subst this
    rw[aNk];rfl
end
section
variable {m:Nat}
theorem bAe:bQ PG 107 f107 [2] []=true:=by kernel_rfl
theorem bCG{xs:List Nat}(L:xs.length<=2)(lx:bC xs):VX (m+1) 107 [tW xs]=some (.int .u64 (val xs:Nat),false):=by
 refine bY rfl func107 bAe rfl ?_
 simp only[f107,N1,bD,bJ,bM,bL,bH,zB,zG]
 simp (disch:=first|rfl|omega)only[S1,aN,aC,aE,aM,aJ,zB]
 refine .loop (fun n e s=>s=eA/\n<=xs.length/\e 0=some (tW xs)/\e 4=some (.int .i64 (iz n))/\e 3=some (.int .u64 (val (xs.drop n):Nat))) xs.length ?_ (dC (by omega)) ?_
 ·simp (disch:=first|rfl|omega)only[S1,zB]
  simp [val]
 ·rintro n e s ⟨rfl,hn,e0,E,F⟩
  simp (disch:=first|rfl|omega)only[S1,aC,aE,aM,aJ,zB,E]
  refine cJ (fun h=> ?_) (fun h=> ?_)
  ·have h0:=of_decide_eq_true h
   have h1:val (xs.drop n)<4294967296:=aV1 lx (by omega)
   have h2:=lx.getD (n-1)
   simp (disch:=first|rfl|omega)only[S1,aC,aE,aM,aJ,zB,e0,E,F]
   refine⟨n-1,by omega,by omega,rfl, ?_⟩
   rw[oW xs (j:=n-1) (by omega),show n-1+1=n by omega,bIX,bJW]
  ·have h0:=of_decide_eq_false h
   obtain rfl:n=0:=by omega
   simp (disch:=first|rfl|omega)only[S1,zB,reduceCtorEq,zG,F]
theorem bHm:bQ PG 145 f145 [5,4,16] []=true:=by kernel_rfl
theorem bIa{xs:List Nat}{n:Nat}(L:xs.length<10000000)(lx:bC xs)(hn:0<n)(G:n<4294967296):VX (m+2) 145 [tW xs,.int .u32 (n:Nat)]=some (.tp [tW (aO (val xs/n)),.int .u32 ((val xs%n:Nat):Int)],false):=by
 refine bY rfl func145 bHm rfl ?_
 simp only[f145,N1,bD,bJ,bM,bL,bH,zB,zG]
 simp (disch:=first|rfl|omega)only[S1,aN,aC,aE,aM,aJ,zB,zD]
 refine .loop (fun k e s=>k<=xs.length/\∃ρ zs,s.nxt=1/\s.ob 0=⟨0,zs.map wc⟩/\e 0=some (tW xs)/\e 1=some (.int .u32 (n:Nat))/\e 6=some (.ow 0 0 xs.length 1)/\e 7=some (.int .u64 (ρ:Nat))/\e 8=some (.int .i64 (iz k))/\ρ<n/\zs.length=xs.length/\bC zs/\val (xs.drop k)=n*val (zs.drop k)+ρ) xs.length ?_ (dC (by omega)) ?_
 ·refine⟨bIK _,0,bIQ xs.length 0, ?_⟩
  simp (disch:=first|rfl|omega)only[S1,zB]
  simp [val,hn,qD]
 ·rintro k e s ⟨H,ρ,zs,sn,so,e0,d,f,o,u,hρ,zl,zL,z⟩
  simp (disch:=first|rfl|omega)only[S1,aC,aE,aM,aJ,zB,u]
  refine cJ (fun h=> ?_) (fun h=> ?_)
  ·have h0:=of_decide_eq_true h
   have hx:=lx.getD (k-1)
   simp (disch:=first|rfl|omega)only[S1,aC,aE,aM,aJ,zB,zG,e0,d,f,o,u,sn,so]
   have hq:=aGg hρ hx
   rw[bJW,bIX]at hq
   rw[bJo hq]
   refine⟨k-1,by omega,by omega,_,_,rfl,rfl,rfl,bJa _ hn,by simp [zl],jO zL hq, ?_⟩
   have:=aJs (xs:=xs) (zs:=zs) (j:=k-1) (n:=n) (r:=ρ) (by omega) zl (by rw[show k-1+1=k by omega];exact z)
   rw[bIX 4294967296,bJW (xs.getD (k-1) 0)]at this
   exact this
  ·have h0:=of_decide_eq_false h
   obtain rfl:k=0:=by omega
   simp only[bJd]at z
   simp (disch:=first|rfl|omega)only[S1,zB,zG,f]
   rw[uS (zs:=zs) (by omega) so zl (by omega)]
   simp (disch:=first|rfl|omega)only[S1,zB,reduceCtorEq,o]
   rw[aHB (by omega) so (by omega) (cP.int _ _) (by simp only[dA];decide),iB zL]
   rw[z,Nat.mul_add_div hn,bKs hρ,bJD,Nat.mul_add_mod,bJo hρ,bJo (bJR hρ G)]
theorem bCt:bQ PG 191 f191 [4,35,22] []=true:=by kernel_rfl
theorem bGI{xs ys:List Nat}(hx:xs.length<9000000)(v:ys.length<9000000)(lx:bC xs)(ly:bC ys):VX (m+2) 191 [tW xs,tW ys]=some (.tp [tW (aO (val xs+val ys))],true):=by
 refine bY rfl func191 bCt rfl ?_
 simp only[f191,N1,bD,bJ,bM,bL,bH,zB,zG]
 simp (disch:=first|rfl|omega)only[S1,aN,aC,aE,aM,aJ,zB,zD]
 have J:∃N,N<9000000/\(xs.length<ys.length->ys.length=N)/\(¬xs.length<ys.length->xs.length=N):=⟨max xs.length ys.length,by omega,by omega,by omega⟩
 obtain⟨N,J,n1,M⟩:=J
 refine cJ (fun h=> ?_) (fun h=> ?_)
 all_goals
  simp (disch:=first|rfl|omega)only[S1,aN,aC,aE,aM,aJ,zB,zH]
  refine .up (fun k e s=>∃ps qs b zs,s.nxt=1/\s.ob 0=⟨0,zs.map wc⟩/\e 0=some (tW ps)/\e 1=some (tW qs)/\e 5=some (.ow 0 0 (N+1) 1)/\e 6=some (.int .u64 (b:Nat))/\e 7=some (.int .i64 (k:Nat))/\ps.length=N/\qs.length<=N/\bC ps/\bC qs/\val ps+val qs=val xs+val ys/\b<=1/\zs.length=N+1/\bC zs/\(∀j,k<=j->zs.getD j 0=0)/\val (zs.take k)+4294967296^k*b=val (ps.take k)+val (qs.take k)) N ?_ (dC (by omega)) ?_
  ·first
    | (have h0:xs.length<ys.length:=of_decide_eq_true h
       rw[←n1 h0]
       refine⟨ys,xs,0,bIQ (ys.length+1) 0, ?_⟩
       simp (disch:=first|rfl|omega)only[S1,zB,zH]
       exact⟨bJg h0,ly,lx,bJW _ _,qD _,fun j _=>wV _ _,by simp [val]⟩)
    | (have h0:¬xs.length<ys.length:=of_decide_eq_false h
       rw[←M h0]
       refine⟨xs,ys,0,bIQ (xs.length+1) 0, ?_⟩
       simp (disch:=first|rfl|omega)only[S1,zB,zH]
       exact⟨bKP h0,lx,ly,qD _,fun j _=>wV _ _,by simp [val]⟩)
  ·rintro k e s H ⟨ps,qs,b,zs,sn,so,e0,d,p,f,o,al,bl,la,lb,hs,K,zl,zL,q,a⟩
   simp (disch:=first|rfl|omega)only[S1,aN,zB,e0,o]
   refine cJ (fun h=> ?_) (fun h=> ?_)
   ·have h0:=of_decide_eq_true h
    have h1:=la.getD k
    have h2:=lb.getD k
    have t:=aVR (zs:=zs) (by omega) a
    have g:bC (zs.set k ((b+ps.getD k 0+qs.getD k 0)%4294967296)):=jO zL (bJa _ (by decide))
    simp (disch:=first|rfl|omega)only[S1,aN,zB,e0,d,f,o]
    refine cJ (fun w=> ?_) (fun w=> ?_)
    ·have x:=of_decide_eq_true w
     simp (disch:=first|rfl|omega)only[S1,aC,aE,aM,aJ,zB,zG,e0,d,p,f,o,sn,so]
     exact⟨by omega,_,_,_,_,rfl,rfl,rfl,rfl,al,bl,la,lb,hs,by omega,by simp [zl],g,fun j D=>by rw[getD_set_ne (by omega)];exact q j (by omega),t⟩
    ·have x:=of_decide_eq_false w
     rw[show qs.getD k 0=0 from qF (by omega)]at t g
     simp (disch:=first|rfl|omega)only[S1,aC,aE,aM,aJ,zB,zG,e0,d,p,f,o,sn,so]
     exact⟨by omega,_,_,_,_,rfl,rfl,rfl,rfl,al,bl,la,lb,hs,by omega,by simp [zl],g,fun j D=>by rw[getD_set_ne (by omega)];exact q j (by omega),t⟩
   ·have h0:=of_decide_eq_false h
    obtain rfl:k=N:=by omega
    rw[bJ2 (l:=ps) (by omega),bJ2 (l:=qs) bl]at a
    simp (disch:=first|rfl|omega)only[S1,aN,zB,zG,e0,p,f,al,sn,so]
    rw[uS (zs:=zs.set k (b%4294967296)) (by rw[qI];omega) (by simp [VS.set]) (by simp [zl]) (by omega)]
    simp (disch:=first|rfl|omega)only[S1,zB,reduceCtorEq]
    have A:=aJ3 (xs:=zs) (j:=k) (by omega) (b%4294967296)
    have B:=nT zs k
    rw[bJ2 (by omega)]at B
    rw[q k (bIK _)]at A B
    rw[bJo (by omega)]at A ⊢
    rw[xB (by rw[qI];omega) (by simp [VS.set]),iB (jO zL (by omega)),show val (zs.set k b)=val xs+val ys by omega]
theorem bBw:bQ PG 149 f149 [4,22,16] []=true:=by kernel_rfl
theorem aJh{xs ys:List Nat}(hx:xs.length<9000000)(y:ys.length<=xs.length)(lx:bC xs)(ly:bC ys)(z:val ys<=val xs):VX (m+2) 149 [tW xs,tW ys]=some (.tp [tW (aO (val xs-val ys))],true):=by
 refine bY rfl func149 bBw rfl ?_
 simp only[f149,N1,bD,bJ,bM,bL,bH,zB,zG]
 simp (disch:=first|rfl|omega)only[S1,aN,aC,aE,aM,aJ,zB,zD]
 refine .up (fun k e s=>∃b zs,s.nxt=1/\s.ob 0=⟨0,zs.map wc⟩/\e 0=some (tW xs)/\e 1=some (tW ys)/\e 5=some (.ow 0 0 xs.length 1)/\e 6=some (.int .u64 (b:Nat))/\e 7=some (.int .i64 (k:Nat))/\b<=1/\zs.length=xs.length/\bC zs/\val (zs.take k)+val (ys.take k)=val (xs.take k)+4294967296^k*b) xs.length ?_ (dC (by omega)) ?_
 ·refine⟨0,bIQ xs.length 0, ?_⟩
  simp (disch:=first|rfl|omega)only[S1,zB,zH]
  simp [val,qD]
 ·rintro k e s H ⟨b,zs,sn,so,e0,d,p,f,o,K,zl,zL,a⟩
  simp (disch:=first|rfl|omega)only[S1,aN,zB,e0,o]
  refine cJ (fun h=> ?_) (fun h=> ?_)
  ·have h0:=of_decide_eq_true h
   have h1:=lx.getD k
   have h2:=ly.getD k
   have t:=aLi (zs:=zs) (by omega) h1 h2 K a
   have g:bC (zs.set k ((xs.getD k 0+4294967296-ys.getD k 0-b)%4294967296)):=jO zL (bJa _ (by decide))
   simp (disch:=first|rfl|omega)only[S1,aN,aC,aE,aM,aJ,zB,d,o]
   refine cJ (fun w=> ?_) (fun w=> ?_)
   ·have x:=of_decide_eq_true w
    simp (disch:=first|rfl|omega)only[S1,aC,aE,aM,aJ,zB,zG,e0,d,p,f,o,sn,so]
    exact⟨h0,_,_,rfl,rfl,by omega,by simp [zl],g,t⟩
   ·have x:=of_decide_eq_false w
    rw[show ys.getD k 0=0 from qF (by omega)]at t g
    simp (disch:=first|rfl|omega)only[S1,aC,aE,aM,aJ,zB,zG,e0,d,p,f,o,sn,so]
    exact⟨h0,_,_,rfl,rfl,by omega,by simp [zl],g,t⟩
  ·have h0:=of_decide_eq_false h
   obtain rfl:k=xs.length:=by omega
   rw[bJ2 (by omega),bJ2 y,bJy]at a
   have q:=iY zL
   rw[zl]at q
   have hb0:b=0:=by
    rcases bIT 0 b with hb0|hb0
    ·have:b=1:=by omega
     subst this;omega
    ·omega
   subst hb0
   simp (disch:=first|rfl|omega)only[S1,zB,p]
   rw[uS (zs:=zs) (by omega) so zl (by omega)]
   simp (disch:=first|rfl|omega)only[S1,zB,reduceCtorEq]
   rw[xB (by omega) so,iB zL,show val zs=val xs-val ys by omega]
theorem aQ2{xs ys:List Nat}(hx:xs.length<9000000)(y:ys.length<=xs.length)(lx:bC xs)(ly:bC ys)(z:val ys<=val xs):CC (VX (m+2)) 149 [tW xs,tW ys] (tW (aO (val xs-val ys))):= .fr (Can.cons (jB _) (Can.cons (jB _) Can.nil)) (by simp only[bW,fJ];decide) (aJh hx y lx ly z)
theorem aZ6:bQ PG 192 f192 [4,24,18] []=true:=by kernel_rfl
theorem aPt{xs ys:List Nat}(hx:xs.length<4000000)(v:ys.length<4000000)(lx:bC xs)(ly:bC ys):VX (m+2) 192 [tW xs,tW ys]=some (.tp [tW (aO (val xs*val ys))],true):=by
 refine bY rfl func192 aZ6 rfl ?_
 simp only[f192,N1,bD,bJ,bM,bL,bH,zB,zG]
 simp (disch:=first|rfl|omega)only[S1,aN,aC,aE,aM,aJ,zB,zD]
 refine .up (fun k e s=>∃zs,s.nxt=1/\s.ob 0=⟨0,zs.map wc⟩/\e 0=some (tW xs)/\e 1=some (tW ys)/\e 5=some (.ow 0 0 (xs.length+ys.length) 1)/\e 6=some (.int .i64 (k:Nat))/\zs.length=xs.length+ys.length/\bC zs/\(∀j,k+ys.length<=j->zs.getD j 0=0)/\val zs=val (xs.take k)*val ys) xs.length ?_ (dC (by omega)) ?_
 ·refine⟨bIQ (xs.length+ys.length) 0, ?_⟩
  simp (disch:=first|rfl|omega)only[S1,zB]
  simp only[qD,aHk,wV,val]
  simp
 ·rintro i e s O ⟨zs,sn,so,e0,d,p,f,zl,zL,q,a⟩
  simp (disch:=first|rfl|omega)only[S1,aN,zB,e0,f]
  refine cJ (fun h=> ?_) (fun h=> ?_)
  ·have h0:=of_decide_eq_true h
   have h1:=lx.getD i
   simp (disch:=first|rfl|omega)only[S1,aC,aE,aM,aJ,zB]
   refine .up (fun k e s=>∃c zs,s.nxt=1/\s.ob 0=⟨0,zs.map wc⟩/\e 0=some (tW xs)/\e 1=some (tW ys)/\e 5=some (.ow 0 0 (xs.length+ys.length) 1)/\e 6=some (.int .i64 (i:Nat))/\e 7=some (.int .u64 (c:Nat))/\e 8=some (.int .i64 (k:Nat))/\c<4294967296/\zs.length=xs.length+ys.length/\bC zs/\(∀j,i+ys.length<=j->zs.getD j 0=0)/\val zs+4294967296^(i+k)*c=val (xs.take i)*val ys+4294967296^i*xs.getD i 0*val (ys.take k)) ys.length ?_ (dC (by omega)) ?_
   ·refine⟨0,zs, ?_⟩
    simp (disch:=first|rfl|omega)only[S1,zB,zG,e0,d,p,f,sn,so]
    simp only[zl,zL,a,true_and,val,bKK,bJD,and_true]
    exact q
   ·rintro k e s H ⟨c,zs,sn,so,e0,d,p,f,o,u,hc,zl,zL,q,a⟩
    simp (disch:=first|rfl|omega)only[S1,aN,zB,d,u]
    refine cJ (fun h2=> ?_) (fun h2=> ?_)
    ·have C:=of_decide_eq_true h2
     have v:=ly.getD k
     have I:=zL.getD (i+k)
     obtain⟨P,Q⟩:=aLx hc I h1 v
     have t:=aLk (by omega) a
     simp (disch:=first|rfl|omega)only[S1,aC,aE,aM,aJ,zB,reduceCtorEq,zG,e0,d,p,f,o,u,sn,so]
     refine⟨C,_,_,rfl,rfl, ?_,by simp [zl],jO zL (bJa _ (by decide)),fun j D=> ?_,t⟩
     ·omega
     ·rw[getD_set_ne (by omega)];exact q j D
    ·have C:=of_decide_eq_false h2
     obtain rfl:k=ys.length:=by omega
     have t:=aLw h0 zl (q _ (bIK _)) a
     simp (disch:=first|rfl|omega)only[S1,aN,aC,aE,aM,aJ,zB,zC,reduceCtorEq,zG,e0,d,p,f,o,sn,so]
     refine⟨h0,_,rfl,by simp [zl],jO zL ?_,fun j D=> ?_, ?_⟩
     ·exact bJa _ (by decide)
     ·rw[getD_set_ne (by omega)];exact q j (by omega)
     ·rw[bJo hc];exact t
  ·have h0:=of_decide_eq_false h
   obtain rfl:i=xs.length:=by omega
   rw[bJy]at a
   simp (disch:=first|rfl|omega)only[S1,zB,p]
   rw[uS (zs:=zs) (by omega) so zl (by omega)]
   simp (disch:=first|rfl|omega)only[S1,zB,reduceCtorEq]
   rw[xB (by omega) so,iB zL,a]
theorem bD7{xs ys:List Nat}(hx:xs.length<4000000)(v:ys.length<4000000)(lx:bC xs)(ly:bC ys):CC (VX (m+2)) 192 [tW xs,tW ys] (tW (aO (val xs*val ys))):= .fr (Can.cons (jB _) (Can.cons (jB _) Can.nil)) (by simp only[bW,fJ];decide) (aPt hx v lx ly)
theorem bFt{xs ys:List Nat}(hx:xs.length<9000000)(v:ys.length<9000000)(lx:bC xs)(ly:bC ys):CC (VX (m+2)) 191 [tW xs,tW ys] (tW (aO (val xs+val ys))):= .fr (Can.cons (jB _) (Can.cons (jB _) Can.nil)) (by simp only[bW,fJ];decide) (bGI hx v lx ly)
end
section
variable {m:Nat}
theorem aXh:bQ PG 146 f146 [2] []=true:=by kernel_rfl
theorem aZN{xs:List Nat}(O:xs.length<10000000)(lx:bC xs):VX (m+1) 146 [tW xs]=some (.int .i64 (aAf xs:Nat),false):=by
 refine bY rfl func146 aXh rfl ?_
 simp only[f146,N1,bD,bJ,bM,bL,bH,zB,zG]
 simp (disch:=first|rfl|omega)only[S1,aN,aC,aE,aM,aJ,zB]
 refine cJ (fun h=> ?_) (fun h=> ?_)
 ·have h0:=of_decide_eq_true h
  simp (disch:=first|rfl|omega)only[S1,aC,aE,aM,aJ,zB,reduceCtorEq]
  rw[aAf,if_pos h0]
 ·have h0:=of_decide_eq_false h
  have hx:=lx.getD (xs.length-1)
  have i':=aBP (k:=32) (x:=xs.getD (xs.length-1) 0) hx
  have hL:aAf xs=32*(xs.length-1)+blen (xs.getD (xs.length-1) 0):=by rw[aAf,if_neg h0]
  simp (disch:=first|rfl|omega)only[S1,aN,aC,aE,aM,aJ,zB]
  refine .loop (fun n e s=>s=eA/\e 0=some (tW xs)/\∃i z,e 3=some (.int .i64 (i:Nat))/\e 4=some (.int .u32 (z:Nat))/\z<4294967296/\i+blen z=blen (xs.getD (xs.length-1) 0)/\n=blen z) _ ⟨?_, ?_,0,xs.getD (xs.length-1) 0, ?_, ?_,hx,bJl _,rfl⟩ (dC (by omega)) ?_
  ·simp (disch:=first|rfl|omega)only[]
  ·simp (disch:=first|rfl|omega)only[S1,zB]
  ·simp (disch:=first|rfl|omega)only[S1,zB]
  ·simp (disch:=first|rfl|omega)only[S1,zB]
  ·rintro n e s ⟨rfl,e0,i,z,P,S,W,hi,rfl⟩
   simp (disch:=first|rfl|omega)only[S1,aC,aE,aM,aJ,zB,S]
   refine cJ (fun h=> ?_) (fun h=> ?_)
   ·have h1:=of_decide_eq_true h
    have hb:=aAa (x:=z) (by omega)
    simp (disch:=first|rfl|omega)only[S1,aC,aE,aM,aJ,zB,e0,P,S]
    refine⟨blen (z/2),by omega,i+1,z/2,rfl,rfl,by omega,by omega,rfl⟩
   ·have h1:=of_decide_eq_false h
    obtain rfl:z=0:=by omega
    rw[aBk]at hi
    simp (disch:=first|rfl|omega)only[S1,aN,aC,aE,aM,aJ,zB,reduceCtorEq,zG,e0,P]
    rw[hL,←hi];rfl
theorem bEj:bQ PG 150 f150 [4,26] []=true:=by kernel_rfl
theorem bGO{xs:List Nat}{sh:Nat}(O:xs.length<9000000)(lx:bC xs)(hs:sh<32):VX (m+2) 150 [tW xs,.int .i64 (sh:Nat)]=some (.tp [tW (aO (val xs/2^sh))],true):=by
 refine bY rfl func150 bEj rfl ?_
 simp only[f150,N1,bD,bJ,bM,bL,bH,zB,zG]
 simp (disch:=first|rfl|omega)only[S1,aN,aC,aE,aM,aJ,zB,zD]
 refine .up (fun k e s=>∃zs:List Nat,s.nxt=1/\s.ob 0=⟨0,zs.map wc⟩/\e 0=some (tW xs)/\e 1=some (.int .i64 (sh:Nat))/\e 5=some (.ow 0 0 xs.length 1)/\e 6=some (.int .i64 (k:Nat))/\zs.length=xs.length/\(∀j,j<k->zs.getD j 0=qN xs sh j)) xs.length ?_ (dC (by omega)) ?_
 ·refine⟨bIQ xs.length 0, ?_⟩
  simp (disch:=first|rfl|omega)only[S1,zB]
  exact fun j B=>absurd B (by omega)
 ·rintro k e s X ⟨zs,sn,so,e0,c,f,l,zl,W⟩
  simp (disch:=first|rfl|omega)only[S1,aN,zB,e0,l]
  refine cJ (fun h=> ?_) (fun h=> ?_)
  ·have h0:=of_decide_eq_true h
   have h1:=lx.getD k
   have h2:=lx.getD (k+1)
   simp (disch:=first|rfl|omega)only[S1,aN,aC,aE,aM,aJ,zB,e0,l]
   refine cJ (fun h=> ?_) (fun h=> ?_)
   ·have h3:=of_decide_eq_true h
    simp (disch:=first|rfl|omega)only[S1,aC,aE,aM,aJ,zB,zG,e0,c,f,l,sn,so,xJ (n:=sh)]
    exact⟨h0,_,rfl,by simp [zl],aEM (by omega) W (by rw[qN,bIX])⟩
   ·have h3:=of_decide_eq_false h
    simp (disch:=first|rfl|omega)only[S1,aC,aE,aM,aJ,zB,zG,e0,c,f,l,sn,so,xJ (n:=sh)]
    exact⟨h0,_,rfl,by simp [zl],aEM (by omega) W (by rw[qN,show xs.getD (k+1) 0=0 from qF (by omega),bKK,bJD])⟩
  ·have h0:=of_decide_eq_false h
   obtain rfl:k=xs.length:=by omega
   have e:zs=nH sh xs:=aF1 (by rw[zl,aHn]) fun j B=>by rw[W j (by omega),aM0 sh xs j (by omega)]
   have zL:bC zs:=by rw[e];exact aLL _ _
   simp (disch:=first|rfl|omega)only[S1,zB,f]
   rw[uS (zs:=zs) (by omega) so zl (by omega)]
   simp (disch:=first|rfl|omega)only[S1,zB,reduceCtorEq]
   rw[xB (by omega) so,iB zL,e,aN7 hs lx]
theorem aVT:bQ PG 147 f147 [4] []=true:=by kernel_rfl
theorem aMg{xs:List Nat}{sh:Nat}{s:VS}{orc:cN}(O:xs.length<9000000)(lx:bC xs)(hs:sh<32):∃R s1,fH PG cC orc lA 147 [tW xs,.int .i64 (sh:Nat)] s=some (R,s1)/\R= .ow s.nxt 0 (xs.length+1) 1/\s1.nxt=s.nxt+1/\(∀k,k<s.nxt->s1.ob k=s.ob k)/\∃zs:List Nat,s1.ob s.nxt=⟨0,zs.map wc⟩/\zs.length=xs.length+1/\bC zs/\val zs=val xs*2^sh:=by
 refine aBJ (n:=7) rfl func147 aVT rfl ?_
 simp only[f147,N1,bD,bJ,bM,bL,bH,zB,zG]
 simp (disch:=first|rfl|omega)only[S1,aH,aN,aC,aE,aM,aJ,zB,zD,zH]
 refine .up (fun k e s1=>s1.nxt=s.nxt+1/\(∀k,k<s.nxt->s1.ob k=s.ob k)/\∃zs:List Nat,s1.ob s.nxt=⟨0,zs.map wc⟩/\e 0=some (tW xs)/\e 1=some (.int .i64 (sh:Nat))/\e 5=some (.ow s.nxt 0 (xs.length+1) 1)/\e 6=some (.int .i64 (k:Nat))/\zs.length=xs.length+1/\bC zs/\zs.getD k 0<2^sh/\(∀j,k<j->zs.getD j 0=0)/\val (zs.take (k+1))=val (xs.take k)*2^sh) xs.length ?_ (dC (by omega)) ?_
 ·have hp:0<2^sh:=bJx (by decide)
  refine⟨rfl,fun k X=> ?_,bIQ (xs.length+1) 0, ?_⟩
  ·rw[iP,show(k==s.nxt)=false by simp;omega];rfl
  simp (disch:=first|rfl|omega)only[S1,zB]
  refine⟨qD _,by rw[wV];exact hp,fun j _=>wV _ _,by simp [val,bK9]⟩
 ·rintro k e s1 X ⟨sn,sk,zs,so,e0,c,f,l,zl,zL,z1,z2,z3⟩
  simp (disch:=first|rfl|omega)only[S1,aN,zB,e0,l]
  refine cJ (fun h=> ?_) (fun h=> ?_)
  ·have h0:=of_decide_eq_true h
   have h1:=lx.getD k
   have h2:=aNT hs h1
   have h3:=zL.getD k
   have Z:=aMx hs h0 h1 zl zL z1 z2 z3
   have C:=aRK (x:=xs.getD k 0) hs z1
   have j':(zs.set k (zs.getD k 0+xs.getD k 0*2^sh%4294967296)).length=xs.length+1:=by rw[bJX,zl]
   have a':xs.getD k 0*2^sh/4294967296%4294967296=xs.getD k 0*2^sh/4294967296:=bJo (by omega)
   simp (disch:=first|rfl|omega)only[S1,aC,aE,aM,aJ,zB,reduceCtorEq,e0,c,f,l,sn,so,xK (n:=sh),C,a']
   refine⟨h0,fun j B=> ?_,_,rfl,Z⟩
   rw[show(j==s.nxt)=false by simp;omega]
   exact sk j B
  ·have h0:=of_decide_eq_false h
   obtain rfl:k=xs.length:=by omega
   rw[bJ2 (by omega),bJy]at z3
   simp (disch:=first|rfl|omega)only[S1,zB,reduceCtorEq,f,sn,so]
   exact⟨_,rfl,rfl,sk,zs,rfl,zl,zL,z3⟩
theorem aWp{U V T v D Q:Nat}(hT:T*D<=U)(hV:V<(v+1)*D)(p:Q*v<=T)(h1:Q<4294967296)(h2:4294967296<=2*v)(g:0<V):Q<=U/V+2:=by
 rcases bIT (U/V+2) Q with h|h
 ·exfalso
  have c:U<V*(U/V+1):=Nat.lt_mul_div_succ U g
  generalize U/V=q at*
  have e2:V*(q+1)<=(v+1)*D*(q+1):=bJ8 _ (bJg hV)
  have P:Q*v*D<=T*D:=bJ8 _ p
  have S:(q+3)*v<=Q*v:=bJ8 _ (by omega)
  have f:Q*v*D<(v+1)*(q+1)*D:=by
   have:(v+1)*D*(q+1)=(v+1)*(q+1)*D:=by rw[bJ5,bIX D,bJ5]
   omega
  have l:Q*v<(v+1)*(q+1):=Nat.lt_of_mul_lt_mul_right f
  have e7:(q+3)*v=q*v+3*v:=bJp _ _ _
  have e8:(v+1)*(q+1)=q*v+v+q+1:=by rw[bJp,bJ6,bIX v q];omega
  omega
 ·exact h
theorem aEF{et:fO}{k:bQc}:bX et .lss (.int k (-1)) (.int k ((0:Nat):Int))=some (.b true):=by simp [bX,dY]
theorem bBO:bQ PG 148 f148 [5,4,42,32] []=true:=by kernel_rfl
theorem bD6{zs ys:List Nat}{V kk k k2 off:Nat}{s:VS}(E:k2<s.nxt)(o:s.ob k2=⟨0,ys.map wc⟩)(k':kk+1<=ys.length)(t:ys.take (kk+1)=aO V)(X:k<s.nxt)(C:s.ob k=⟨0,zs.map wc⟩)(O:off+(kk+2)<=zs.length)(hb:kk<3000000)(zL:bC zs)(hV:(aO V).length=kk+1)(hn:4294967296^kk*2147483648<=V)(F:val ((zs.drop off).take (kk+2))<V*4294967296):
  ∃R s1,fH PG cC (VX (m+2)) lA 148 [.ow k off (kk+2) 1,.ow k2 0 (kk+1) 1] s=some (R,s1)/\R= .tp [.int .u32 ((val ((zs.drop off).take (kk+2))/V:Nat):Int),tW (aO (val ((zs.drop off).take (kk+2))/V*V))]/\s1.nxt=s.nxt+1/\∀j,j<s.nxt->s1.ob j=s.ob j:=by
 refine aBJ (n:=7) rfl func148 bBO rfl ?_
 obtain⟨xs,a⟩:∃xs,(zs.drop off).take (kk+2)=xs:=⟨_,rfl⟩
 rw[a]at F ⊢
 have u:xs.length=kk+2:=by rw[←a];simp;omega
 have lx:bC xs:=by rw[←a];exact(zL.drop off).take _
 have g1:zs.getD (off+(kk+1)) 0=xs.getD (kk+1) 0:=by rw[←a,getD_take (by omega),uK]
 have g0:zs.getD (off+kk) 0=xs.getD kk 0:=by rw[←a,getD_take (by omega),uK]
 have g2:ys.getD kk 0=(aO V).getD kk 0:=by rw[←t,getD_take (by omega)]
 have l':=lx.getD (kk+1)
 have m':=lx.getD kk
 have hy:=(cV V).getD kk
 have d:=aVf u lx hV
 have H:=aO5 u lx
 have I:=aLp hV (cV V)
 rw[cO]at I
 have J:=aQn hV
 simp only[f148,N1,bD,bJ,bM,bL,bH,zB,zG]
 simp (disch:=first|rfl|omega)only[S1,aH,aN,aC,aE,aM,aJ,zB,reduceCtorEq,zD,C,o,g0,g1,g2,bJw]
 obtain⟨G,Y⟩:∃G,(xs.getD (kk+1) 0*4294967296+xs.getD kk 0)/(aO V).getD kk 0=G:=⟨_,rfl⟩
 rw[Y]
 have n':G<18446744073709551616:=by
  rw[←Y]
  exact bJe (bKc _ _) (by omega)
 have g:0<V:=bIP (bJH (aCT kk) (by decide)) hn
 have b':4294967296<=2*(aO V).getD kk 0:=by
  rcases bIT ((aO V).getD kk 0) 2147483648 with h|h
  ·exfalso
   have c:((aO V).getD kk 0+1)*4294967296^kk<=2147483648*4294967296^kk:=bJ8 _ h
   rw[bIX]at hn
   omega
  ·omega
 have hq:val xs/V<4294967296:=bKJ F
 have near:∀Q,Q<4294967296->Q<=G->Q<=val xs/V+2:=fun Q p c'=>by
  refine aWp (T:=xs.getD kk 0+4294967296*xs.getD (kk+1) 0) (D:=4294967296^kk) (v:=(aO V).getD kk 0) ?_ I ?_ p b' g
  ·rw[←H];exact bLf _ _
  ·rw[bIX 4294967296,bJW,←bKV J,Y];exact c'
 rw[bJW,bIX 4294967296,Y]at d
 have w:∀Q:Nat,Q<4294967296->fH PG cC (VX (m+2)) 7 192 [.ow k2 0 (kk+1) 1,.ow s.nxt 0 1 1] (s.new [.int .u32 (Q:Nat)])=some (tW (aO (Q*V)),s.new [.int .u32 (Q:Nat)]):=fun Q p=>by
  have h1:=aPt (m:=m) (xs:=aO V) (ys:=[Q]) (by omega) (by simp) (cV V) (bC.cons p bC.nil)
  rw[show val [Q]=Q by simp [val],cO,bIX]at h1
  rw[vJ 192 rfl]
  exact bA8 (zs:=ys) (ys:=[Q]) (by simp only[bJd,bL9,bKG];rw[t,h1];exact .fr) (bLb E) (by rw[iP,show(k2==s.nxt)=false by simp;omega];exact o) (by omega) (by omega) (bIZ _) (by rw[iP,beq_self_eq_true];rfl) (by simp) (by decide) (by omega)
 refine cJ (fun h=> ?_) (fun h=> ?_)
 all_goals
  have p:∃Q,Q<4294967296/\val xs/V<=Q/\Q<=G/\((decide (4294967295<G)=true->Q=4294967295)/\(decide (4294967295<G)=false->Q=G)):=by
   by_cases hg:4294967295<G
   ·exact⟨4294967295,by decide,by omega,by omega,fun _=>rfl,fun h=>by simp [hg]at h⟩
   ·exact⟨G,by omega,d,bIK _,fun h=>by simp [hg]at h,fun _=>rfl⟩
  obtain⟨Q,A,q2,q3,q4,q5⟩:=p
  have q6:=near Q A q3
  first
   | (have q7:4294967295%4294967296=Q:=by have:=q4 h;omega
      have q8:(4294967295:Nat)=Q:=by have:=q4 h;omega)
   | (have q7:G%4294967296=Q:=by have:=q5 h;omega
      have q8:G=Q:=by have:=q5 h;omega)
  simp (disch:=first|rfl|omega)only[S1,aC,aE,aM,aJ,aD,zB,zE,zH,bK9,List.replicate_zero,bKR,List.flatten_nil,q7,w Q A]
  refine .loop (fun n e s1=>∃Q,Q<4294967296/\val xs/V<=Q/\n=Q-val xs/V/\s1.nxt=s.nxt+1/\(∀j,j<s.nxt->s1.ob j=s.ob j)/\e 0=some (.ow k off (kk+2) 1)/\e 1=some (.ow k2 0 (kk+1) 1)/\e 7=some (.int .u64 (Q:Nat))/\e 8=some (tW (aO (Q*V)))) (Q-val xs/V) ?_ (dC (by omega)) ?_
  ·refine⟨Q,A,q2,rfl,rfl,fun j B=>by rw[iP,show(j==s.nxt)=false by simp;omega];rfl, ?_⟩
   simp (disch:=first|rfl|omega)only[S1,zB,q8]
  ·rintro n e s1 ⟨Q,A,q2,rfl,sn,so,e0,c,e7,e8⟩
   have K:k<s1.nxt:=by omega
   have L:=(so k X).trans C
   have ht:fH PG cC (VX (m+2)) 7 65 [.ow k off (kk+2) 1] s1=some (.ow k off (aO (val xs)).length 1,s1):=by
    rw[aPr (n:=6) (by omega) K L O,a,iB lx]
   have g':(aO (val xs)).length<=kk+2:=by rw[←iB lx,←u];exact qC _
   have y:(zs.drop off).take (aO (val xs)).length=aO (val xs):=by
    rw[←iB lx]
    conv=>rhs;rw[mW,←a]
    rw[bJC,bJc (by have:=qC xs;rw[a];omega),a]
   have hc:fH PG cC (VX (m+2)) 7 68 [.ow k off (aO (val xs)).length 1,tW (aO (Q*V))] s1=some (.int .i64 (nI (aO (val xs)) (aO (Q*V))),s1):=by
    rw[vJ 68 rfl]
    exact aOl (zs:=zs) (by rw[y,aN9 (m:=m+1) (by omega) (cV _) (cV _)];exact .sc rfl) K L (by omega) (by omega)
   rw[aHG]at hc
   by_cases b:val xs<Q*V
   ·rw[if_pos b]at hc
    have d':val xs/V<Q:=(Nat.div_lt_iff_lt_mul g).2 b
    have e':0<Q:=bJe (bIR _) d'
    have M:V<=Q*V:=Nat.le_mul_of_pos_left V e'
    have h':(aO (Q*V)).length<=kk+2:=lY (by
     have h1:=iY (cV V)
     rw[cO,hV]at h1
     have h2:Q*V<4294967296*4294967296^(kk+1):=bKL A h1
     rw[show kk+2=(kk+1)+1 from rfl,bJ1,bIX (4294967296^(kk+1))];exact h2)
    have N:=aJh (m:=m) (xs:=aO (Q*V)) (ys:=aO V) (by omega) (oO M) (cV _) (cV _) (by rw[cO,cO];exact M)
    rw[cO,cO,show Q*V-V=(Q-1)*V by rw[Nat.sub_mul,bKQ]]at N
    have hm:fD (VX (m+2)) 149 [tW (aO (Q*V)),.ow k2 0 (kk+1) 1] s1=some (tW (aO ((Q-1)*V)),s1):=aOQ (zs:=ys) (by rw[bJd,t,N];exact .fr) (by omega) ((so k2 E).trans o) (by omega) (by omega)
    simp (disch:=first|rfl|omega)only[S1,aC,aE,aM,aJ,zB,e0,c,e7,e8,ht,hc,aEF,vJ 149 rfl,hm]
    exact⟨Q-1-val xs/V,by omega,Q-1,by omega,by omega,rfl,sn,so,rfl,rfl⟩
   ·rw[if_neg b]at hc
    obtain⟨r,Z⟩:∃r:Nat,(if Q*V<val xs then(1:Int)else 0)=(r:Int):=by
     split
     ·exact⟨1,rfl⟩
     ·exact⟨0,rfl⟩
    rw[Z]at hc
    have f':Q=val xs/V:=by
     have:=(bKV g).2 (bKP b)
     omega
    simp (disch:=first|rfl|omega)only[S1,aC,aE,aM,aJ,zB,reduceCtorEq,e0,e7,e8,ht,hc,bJQ]
    exact⟨_,rfl,by rw[bJo A,f'],sn,so⟩
end
section
variable {m:Nat}
theorem vB(xs ys:List Nat):Can [tW xs,tW ys]:=Can.cons (jB _) (Can.cons (jB _) Can.nil)
theorem vH(xs:List Nat):Can [tW xs]:=Can.cons (jB _) Can.nil
theorem aJM(xs:List Nat)(k:bQc)(z:Int):Can [tW xs,.int k z]:=Can.cons (jB _) (Can.cons (cP.int _ _) Can.nil)
theorem aHV{a b:Nat}(ha:(aO a).length<10000000):CC (VX (m+1)) 68 [tW (aO a),tW (aO b)] (.int .i64 (if a<b then-1 else if b<a then 1 else 0)):= .of (vB _ _) (by simp only[bW,fJ];decide) (by rw[aN9 ha (cV _) (cV _),aHG])
theorem aQK{xs:List Nat}(I:xs.length<=2)(lx:bC xs):CC (VX (m+1)) 107 [tW xs] (.int .u64 (val xs:Nat)):= .of (vH _) (by simp only[bW,fJ];decide) (bCG I lx)
theorem bIk{xs:List Nat}{n:Nat}(I:xs.length<10000000)(lx:bC xs)(hn:0<n)(i':n<4294967296):CC (VX (m+2)) 145 [tW xs,.int .u32 (n:Nat)] (.tp [tW (aO (val xs/n)),.int .u32 ((val xs%n:Nat):Int)]):= .of (aJM _ _ _) (by simp only[bW,fJ,dA];decide) (bIa I lx hn i')
theorem aZK{xs:List Nat}(I:xs.length<10000000)(lx:bC xs):CC (VX (m+1)) 146 [tW xs] (.int .i64 (aAf xs:Nat)):= .of (vH _) (by simp only[bW,fJ];decide) (aZN I lx)
theorem aDi{s:VS}{xs ys:List Nat}:dM s [tW xs,tW ys]=some (.tp [tW xs,tW ys],false):=by
 have h:=(mY cK).2 (s:=s) (vB xs ys).1 (by simp only[bW,fJ];decide)
 have h2:=(vB xs ys).2
 cases xs<;>(simp only[tW,tL,bLe,bJu]at h h2 ⊢;simp only[dM,h,bJk,h2])
theorem aPZ{s:VS}{ys:List Nat}:dM s [.nil,tW ys]=some (.tp [tW [],tW ys],false):=by
 have h:cX cK s [.nil,tW ys]=some ([.nil,tW ys],s):=(mY cK).2 (by simp only[dR,cI,(jB ys).1,bJv]) (by simp only[bW,dA,fJ];decide)
 simp only[dM,h,bJk,cL,jN,(jB ys).2];rfl
theorem aXL:bQ PG 66 f66 [5,4,114,18,105,19,17,16,77,42,27,23] []=true:=by kernel_rfl
set_option maxHeartbeats 2000000 in
theorem bA9{a b:Nat}(hb:0<b)(ha:(aO a).length<=2000000)(a2:(aO b).length<=2000000):VX (m+4) 66 [tW (aO a),tW (aO b)]=some (.tp [tW (aO (a/b)),tW (aO (a%b))],false):=by
 refine bY rfl func66 aXL rfl ?_
 simp only[f66,N1,bD,bJ,bM,bL,bH,zB,zG]
 have T:=aHV (m:=m+2) (a:=a) (b:=b) (by omega)
 by_cases q:a<b
 ·rw[if_pos q]at T
  simp (disch:=first|rfl|omega)only[S1,aC,aE,aM,aJ,zB,reduceCtorEq,zD,vJ 68 rfl,(T _).2,aEF]
  rw[aPZ,bKs q,bJo q,gW]
 ·rw [if_neg q]at T
  obtain⟨r,hr⟩:∃r:Nat,(if b<a then(1:Int)else 0)=(r:Int):=by
   split
   ·exact⟨1,rfl⟩
   ·exact⟨0,rfl⟩
  rw[hr]at T
  simp (disch:=first|rfl|omega)only[S1,aN,aC,aE,aM,aJ,zB,zD,vJ 68 rfl,(T _).2,bJQ]
  refine cJ (fun h=> ?_) (fun h=> ?_)
  ·have h0:=of_decide_eq_true h
   have j':(aO b).length<=2:=bIO (oO (bKP q)) h0
   have va:=iY (cV a)
   rw[cO]at va
   have va2:a<18446744073709551616:=bIP va (bJ9 (n:=4294967296) (by decide) h0)
   have W:=aQK (m:=m+2) h0 (cV a)
   have X:=aQK (m:=m+2) j' (cV b)
   rw[cO]at W X
   have vb2:b<18446744073709551616:=by omega
   have k':=aFv (m:=m+1) (n:=a/b) (bJe (bKc _ _) va2)
   have l':=aFv (m:=m+1) (n:=a%b) (bJe (bLO _ _) va2)
   simp (disch:=first|rfl|omega)only[S1,zB,reduceCtorEq,vJ 107 rfl,(W _).2,(X _).2,(k' _).1,(l' _).1]
   rw[aDi]
  ·have h0:=of_decide_eq_false h
   have Y:(aO b).length≠0:=fun e=>by
    have:=sE.1 (bJA e)
    omega
   simp (disch:=first|rfl|omega)only[S1,aN,aC,aE,aM,aJ,zB]
   refine cJ (fun h=> ?_) (fun h=> ?_)
   ·have h1:=of_decide_eq_true h
    have m':(aO b).getD 0 0=b:=by
     have:=cO b
     cases hL:aO b with
     |nil=>rw[hL]at h1;cases h1
     |cons x l=>
      rw[hL]at this h1
      simp only[bIV,Nat.add_eq_right,bLP]at h1
      subst h1
      simpa [val]using this
    have vb:=iY (cV b)
    rw[cO,h1]at vb
    have hy:=bIk (m:=m+1) (xs:=aO a) (n:=b) (by omega) (cV a) hb (by omega)
    rw[cO]at hy
    have hr:a%b<4294967296:=bJR (bJa _ hb) (by omega)
    have hw:=aFv (m:=m+1) (n:=a%b) (by omega)
    simp (disch:=first|rfl|omega)only[S1,aC,aE,aM,aJ,zB,reduceCtorEq,m',vJ 145 rfl,(hy _).2,vJ 64 rfl,(hw _).2]
    rw[aDi]
   ·have h1:=of_decide_eq_false h
    obtain⟨mm,Z⟩:∃mm,(aO b).length=mm+1:=⟨(aO b).length-1,by omega⟩
    obtain⟨n,hn⟩:∃n,(aO a).length=n:=⟨_,rfl⟩
    obtain⟨s,hs,a3,a0,C,J⟩:=aLV Z
    have n':mm+1<=n:=by have:=oO (bKP q);omega
    have o':=aLX hn n' hs C
    have K:(aO (b*2^s)).length=mm+1:=aKZ (bIO (by omega) C) J
    have F:=aZK (m:=m+2) (xs:=aO b) (by omega) (cV b)
    have p':aAf (aO b)=32*mm+blen ((aO b).getD mm 0):=by
     unfold aAf;rw[if_neg (by omega),Z];simp
    rw[p']at F
    have a4:32*(mm+1)=s+(32*mm+blen ((aO b).getD mm 0)):=by omega
    have a':32*(mm+1)-(32*mm+blen ((aO b).getD mm 0))=s:=by omega
    generalize blen ((aO b).getD mm 0)=t at*
    obtain⟨R,s1,e1,Q,n1, -,xs0,ox,xl,xL,xv⟩:=aMg (xs:=aO a) (sh:=s) (s:=eA) (orc:=VX (m+3)) (by omega) (cV a) hs
    obtain⟨R2,s2,e2,L,S,o2,ys0,oy,yl,yL,yv⟩:=aMg (xs:=aO b) (sh:=s) (s:=s1) (orc:=VX (m+3)) (by omega) (cV b) hs
    have n1:s1.nxt=1:=n1
    have Q:R= .ow 0 0 (n+1) 1:=by rw[Q,hn];rfl
    rw[n1]at S oy o2 L
    rw[Z]at L
    subst Q L
    have ox2:s2.ob 0=⟨0,xs0.map wc⟩:=(o2 0 (by omega)).trans ox
    rw[hn]at xl
    rw[Z]at yl
    rw[cO]at xv yv
    have G:=uS (zs:=ys0) (k:=1) (len:=mm+1+1) (s:=s2) (orc:=VX (m+3)) (by omega) oy yl (by omega)
    have M:cG ys0=aO (b*2^s):=by rw[iB yL,yv]
    rw[M,K]at G
    have q':ys0.take (mm+1)=aO (b*2^s):=by rw[←M];conv=>rhs;rw[mW,M,K]
    generalize b':b*2^s=V at*
    generalize c':a*2^s=U at*
    have d':0<V:=bIP (bJH (aCT mm) (by decide)) C
    simp (disch:=first|rfl|omega)only[S1,aN,aC,aE,aM,aJ,zB,zC,Z,hn,vJ 146 rfl,(F _).2,a',e1,e2,G]
    refine .loop (fun k e B=>k<=n-mm/\3<=B.nxt/\∃xs qs:List Nat,B.ob 0=⟨0,xs.map wc⟩/\B.ob 1=⟨0,ys0.map wc⟩/\B.ob 2=⟨0,qs.map wc⟩/\e 10=some (.int .i64 (s:Nat))/\e 11=some (.ow 0 0 (n+1) 1)/\e 12=some (.ow 1 0 (mm+1) 1)/\e 13=some (.ow 2 0 n 1)/\e 14=some (.int .i64 (iz k))/\xs.length=n+1/\bC xs/\qs.length=n/\bC qs/\xO U V k xs qs) (n-mm) ?_ (dC (by omega)) ?_
    ·have hq:(s2.new (List.map wc (bIQ n 0))).ob 2=⟨0,(bIQ n 0).map wc⟩:=by rw[iP,S];rfl
     have I:iz (n-mm)=((n-(mm+1):Nat):Int):=by rw[vG (by omega)];congr 1
     refine⟨bIK _,by rw[sN,S];exact bIK _,xs0,bIQ n 0,by rw[iP,S];exact ox2,by rw[iP,S];exact oy,hq, ?_⟩
     simp (disch:=first|rfl|omega)only[S1,zB,zD,S]
     exact⟨rfl,xl,xL,qD _,aOr xv (by omega) o'⟩
    ·rintro k e B ⟨hk,a5,xs,qs,z0,z1,z2,c,d,f,g,i,zl,zL,ql,qL,hI⟩
     simp (disch:=first|rfl|omega)only[S1,aC,aE,aM,aJ,zB,i]
     refine cJ (fun h=> ?_) (fun h=> ?_)
     ·have h2:=of_decide_eq_true h
      obtain⟨j,rfl⟩:∃j,k=j+1:=⟨k-1,by omega⟩
      have hU:=aLg zL (by omega) hI
      have r':V*4294967296<=4294967296^(mm+2):=by rw[bJ1];exact bJ8 _ (bJg J)
      have eU:val ((xs.drop j).take (mm+2))=val (xs.drop j):=aCA (bIP hU r')
      have s':bC ((xs.drop j).take (mm+2)):=(zL.drop j).take (mm+2)
      have hsz:j+(mm+1)+1-j=mm+2:=by omega
      have t':(j=j+(mm+1)+1)=False:=by simp;omega
      obtain⟨R,s4,e4,Q,n4,o4⟩:=bD6 (m:=m+1) (zs:=xs) (ys:=ys0) (V:=V) (kk:=mm) (k:=0) (k2:=1) (off:=j) (s:=B) (by omega) z1 (by omega) q' (by omega) z0 (by omega) (by omega) zL K C (by rw[eU];exact hU)
      rw[eU]at Q
      subst Q
      have w0:=(o4 0 (by omega)).trans z0
      have w1:=(o4 1 (by omega)).trans z1
      have w2:=(o4 2 (by omega)).trans z2
      have u':3<=s4.nxt:=by omega
      obtain⟨qd,u⟩:∃qd,val (xs.drop j)/V=qd:=⟨_,rfl⟩
      rw[u]at e4
      have H:qd*V<=val (xs.drop j):=by rw[←u];exact bLf _ _
      have E:cG ((xs.drop j).take (mm+2))=aO (val (xs.drop j)):=by rw[iB s',eU]
      have v':(aO (val (xs.drop j))).length<=mm+2:=by rw[←E];exact bIO (qC _) (by simp;omega)
      have N:(xs.drop j).take (aO (val (xs.drop j))).length=aO (val (xs.drop j)):=by
       conv=>rhs;rw[←E,mW,E,bJC,bJc v']
      have O:fH PG cC (VX (m+3)) lA 65 [.ow 0 j (mm+2) 1] (s4.set 2 ⟨0,(qs.set j qd).map wc⟩)=some (.ow 0 j (aO (val (xs.drop j))).length 1,s4.set 2 ⟨0,(qs.set j qd).map wc⟩):=by
       rw[aQJ (zs:=xs) (by omega) (by rw[qI];omega) (by rw[lG];exact w0) (by omega),E]
      have e':=aJh (m:=m+1) (xs:=aO (val (xs.drop j))) (ys:=aO (qd*V)) (by omega) (oO H) (cV _) (cV _) (by rw[cO,cO];exact H)
      rw[cO,cO,show val (xs.drop j)-qd*V=val (xs.drop j)%V by have:=bK4 (val (xs.drop j)) V;rw[u,bIX]at this;omega]at e'
      have f':fD (VX (m+3)) 149 [.ow 0 j (aO (val (xs.drop j))).length 1,tW (aO (qd*V))] (s4.set 2 ⟨0,(qs.set j qd).map wc⟩)=some (tW (aO (val (xs.drop j)%V)),s4.set 2 ⟨0,(qs.set j qd).map wc⟩):=
       aOl (zs:=xs) (by rw[N,e'];exact .fr) (by rw[qI];omega) (by rw[lG];exact w0) (by omega) (by omega)
      obtain⟨D,hD⟩:∃D,aO (val (xs.drop j)%V)=D:=⟨_,rfl⟩
      have w':bC D:=by rw[←hD];exact cV _
      have a6:D.length<=mm+2:=by
       rw[←hD]
       exact lY (bJR (bJa _ d') (bIP J (bJ9 (by decide) (by omega))))
      rw[hD]at f'
      simp (disch:=first|rfl|omega)only[S1,aN,aC,aE,aM,aJ,zB,zH,d,f,g,i,bJw,hsz,t',e4,w2,O,vJ 149 rfl,f']
      refine .up (fun p e s5=>3<=s5.nxt/\∃us:List Nat,s5.ob 0=⟨0,us.map wc⟩/\s5.ob 1=⟨0,ys0.map wc⟩/\s5.ob 2=⟨0,(qs.set j qd).map wc⟩/\e 10=some (.int .i64 (s:Nat))/\e 11=some (.ow 0 0 (n+1) 1)/\e 12=some (.ow 1 0 (mm+1) 1)/\e 13=some (.ow 2 0 n 1)/\e 14=some (.int .i64 (iz (j+1)))/\e 15=some (.ow 0 j (mm+2) 1)/\e 18=some (tW D)/\e 19=some (.int .i64 (p:Nat))/\us.length=n+1/\bC us/\(∀t,t<p->us.getD (j+t) 0=D.getD t 0)/\(∀t,(t<j\/j+p<=t)->us.getD t 0=xs.getD t 0)) (mm+2) ?_ (dC (by omega)) ?_
      ·refine⟨by rw[qI];exact u',xs,by rw[lG];exact w0,by rw[lG];exact w1,by rw[lG];rfl, ?_⟩
       simp (disch:=first|rfl|omega)only[S1,zB,c,d,f,g,i]
       exact⟨zl,zL,fun t G=>absurd G (bJQ _),fun t _=>trivial⟩
      ·rintro p e s5 hp ⟨P,us,u0,u1,u2,c,d,f,g,i,v,w,A,ul,uL,uD,uX⟩
       simp (disch:=first|rfl|omega)only[S1,aN,zB,v,A]
       refine cJ (fun h=> ?_) (fun h=> ?_)
       ·have h3:=of_decide_eq_true h
        simp (disch:=first|rfl|omega)only[S1,aN,aC,aE,aM,aJ,zB,v,w,A,u0]
        refine cJ (fun h=> ?_) (fun h=> ?_)
        ·have h4:=of_decide_eq_true h
         have a7:(us.set (j+p) 0).length=n+1:=by rw[bJX,ul]
         have o:=aLH (y:=D.getD p 0) ul (by omega) uD uX rfl
         simp (disch:=first|rfl|omega)only[S1,aC,aE,aM,aJ,zB,c,d,f,g,i,v,w,A,u0,u1,u2,List.set_set]
         exact⟨h3,P,_,rfl,o.1,jO uL (w'.getD p),o.2.1,o.2.2⟩
        ·have h4:=of_decide_eq_false h
         have o:=aLH (y:=0) ul (by omega) uD uX (qF (by omega))
         simp (disch:=first|rfl|omega)only[S1,aC,aE,aM,aJ,zB,c,d,f,g,i,v,w,A,u0,u1,u2]
         exact⟨h3,P,_,rfl,o.1,jO uL (by decide),o.2.1,o.2.2⟩
       ·have h3:=of_decide_eq_false h
        obtain rfl:p=mm+2:=by omega
        simp (disch:=first|rfl|omega)only[S1,aC,aE,aM,aJ,zB,zC,reduceCtorEq,c,d,f,g,i,u0,u1,u2,bJw]
        have g':val (xs.drop j)<4294967296^(mm+2):=by omega
        have hd:val (us.drop j)=val (xs.drop j)%V:=by
         rw[←cO (val (xs.drop j)%V),hD]
         apply aI3
         intro t
         rw[uK]
         by_cases G:t<mm+2
         ·exact uD t G
         ·rw[uX (j+t) (by omega),←uK,aHh g' (by omega)]
          exact(qF (by omega)).symm
        have G:us.take j=xs.take j:=by
         apply aF1 (by rw[bIW,bIW,ul,zl])
         intro t x'
         rw[bIW]at x'
         rw[getD_take (by omega),getD_take (by omega)]
         exact uX t (by omega)
        have hq:qd<4294967296:=by rw[←u];exact bKJ hU
        have h':=aN0 hI (by omega) (by omega) (by omega) G hd d'
        rw[u]at h'
        exact⟨j,by omega,by omega,P,us,_,rfl,rfl,rfl,ul,uL,by rw[bJX,ql],jO qL hq,h'⟩
     ·have h2:=of_decide_eq_false h
      obtain rfl:k=0:=by omega
      obtain⟨d1,d2⟩:=aQB hI
      have hp:0<2^s:=bJx (by decide)
      rw[←c',←b',Nat.mul_div_mul_right _ _ hp]at d1
      rw[←c',←b',Nat.mul_mod_mul_right]at d2
      have O:=uS (zs:=qs) (k:=2) (len:=n) (s:=B) (orc:=VX (m+3)) (by omega) z2 ql (by omega)
      have y':=uS (zs:=xs) (k:=0) (len:=n+1) (s:=B) (orc:=VX (m+3)) (by omega) z0 zl (by omega)
      have Y:=bGO (m:=m+1) (xs:=cG xs) (sh:=s) (bJe (qC _) (by omega)) (aLM zL) hs
      have z':fD (VX (m+3)) 150 [.ow 0 0 (cG xs).length 1,.int .i64 (s:Nat)] B=some (tW (aO (a%b)),B):=by
       refine bBd (zs:=xs) ?_ (by omega) z0 (by have:=qC xs;omega) (by have:=qC xs;omega) (cP.int _ _) (by simp only[dA];decide)
       rw[bJd,←mW,Y,aN4,d2,bK2 _ hp]
       exact .fr
      simp (disch:=first|rfl|omega)only[S1,zB,reduceCtorEq,zG,c,d,g,O,y',vJ 150 rfl,z']
      rw[aHB (by omega) z2 (by omega) (jB _) (by rw[fJ];decide),iB qL,d1]
end
section
variable {m:Nat}
def tI(z:Int):TV:= .ag (ci (decide (z<0)) (aO z.natAbs))
def aX(k n:Nat):Prop:=n<4294967296^k
theorem aX.len{k n:Nat}(h:aX k n):(aO n).length<=k:=lY h
theorem aX.mono{j k n:Nat}(h:aX j n)(i:j<=k):aX k n:=bIP h (bJ9 (by decide) i)
theorem aX.le{k n n':Nat}(h:aX k n)(hn:n'<=n):aX k n':=bJe hn h
theorem aX.mul{j k n n':Nat}(h:aX j n)(h':aX k n'):aX (j+k) (n*n'):=by unfold aX;rw[bK7];exact bKL h h'
theorem aX.add{k n n':Nat}(h:aX k n)(h':aX k n'):aX (k+1) (n+n'):=by unfold aX at*;rw[bJ1];omega
def sg(n:Bool)(k:Nat):Int:=if n then-(k:Int)else k
theorem aRv(n:Bool)(k:Nat):(sg n k).natAbs=k:=by cases n<;>simp [sg]
theorem zW{k:Nat}:0<(aO k).length↔k≠0:=by
 rw[Nat.pos_iff_ne_zero,ne_eq,bLP,sE]
theorem bG7(n:Bool)(k:Nat):decide (sg n k<0)=(n&&decide (0<(aO k).length)):=by
 cases n
 ·simp [sg]
 ·simp only[sg,if_true,Bool.true_and]
  exact decide_eq_decide.2 (by rw[zW];omega)
theorem aGo(n:Bool)(k:Nat):tI (sg n k)= .ag (ci (n&&decide (0<(aO k).length)) (aO k)):=by rw[tI,bG7,aRv]
theorem uW(z:Int):cP (tI z):=cP.ag (aFY _ _)
theorem aBX(z:Int):dA (tI z)=6:=by simp only[tI,ci,dA,bW,fJ]
theorem aBV{s:VS}{z:Int}:dM s [tI z]=some (tI z,false):=sO (uW z) (by rw[aBX];decide)
theorem vL(z:Int):Can [tI z]:=Can.cons (uW z) Can.nil
theorem mG(z w:Int):Can [tI z,tI w]:=Can.cons (uW z) (Can.cons (uW w) Can.nil)
theorem vM(z:Int):bW [tI z]<=cK:=by simp only[bW,aBX];decide
theorem mF(z w:Int):bW [tI z,tI w]<=cK:=by simp only[bW,aBX];decide
theorem aBo{z:Int}:(tI z).cells=[.b (decide (z<0)),tW (aO z.natAbs)]:=rfl
theorem aBx{z:Int}:TV.ag [.b (decide (z<0)),tW (aO z.natAbs)]=tI z:=rfl
theorem TI:type_of%(And.intro @aBo (And.intro @aBx (@aBV))):=(And.intro @aBo (And.intro @aBx (@aBV)))
theorem sM{n:Bool}{k:Nat}(h:(aO k).length<10000000):CC (VX (m+2)) 63 [.b n,tW (aO k)] (tI (sg n k)):=by
 refine .of (Can.cons (cP.b _) (vH _)) (by simp only[bW,dA,fJ];decide) ?_
 rw[bBE h,kH,aGo]
theorem aBz(z:Int):sg (decide (z<0)) z.natAbs=z:=by
 by_cases h:z<0
 ·simp only[sg,h,decide_true,if_true];omega
 ·simp only[sg,h,decide_false];simp;omega
theorem aSL(z:Int):sg (!decide (z<0)) z.natAbs= -z:=by
 by_cases h:z<0
 ·simp only[sg,h,decide_true,Bool.not_true];simp;omega
 ·simp only[sg,h,decide_false,Bool.not_false,if_true];omega
theorem vZ:fM PG 4= .boo:=by kernel_rfl
theorem aJC{x y:Bool}:bX .boo .eql (.b x) (.b y)=some (.b (x==y)):=rfl
theorem aBD{x y:Bool}:bX .boo .neq (.b x) (.b y)=some (.b (!(x==y))):=rfl
theorem aVS{et:fO}{k:bQc}:bX et .geq (.int k (-1)) (.int k ((0:Nat):Int))=some (.b false):=by simp [bX,dY]
theorem bDo:bQ PG 67 f67 [2] []=true:=by kernel_rfl
theorem bFq{z:Int}(h:aX 9000000 z.natAbs):VX (m+3) 67 [tI z]=some (tI z,false):=by
 have hs:=sM (m:=m) (n:=decide (z<0)) (k:=z.natAbs) (bJe h.len (by decide))
 rw[aBz]at hs
 refine bY rfl func67 bDo rfl ?_
 simp only[f67,N1,bD,bJ,bM,bL,bH,zB,zG]
 simp (disch:=first|rfl|omega)only[S1,zB,reduceCtorEq,zD,zG,zH,TI,aT,vJ 63 rfl,(hs _).2]
theorem aAw{z:Int}(h:aX 9000000 z.natAbs):CC (VX (m+3)) 67 [tI z] (tI z):= .of (vL z) (vM z) (bFq h)
theorem bGQ:bQ PG 105 f105 [2] []=true:=by kernel_rfl
theorem bHy{z:Int}(h:aX 9000000 z.natAbs):VX (m+3) 105 [tI z]=some (tI (-z),false):=by
 have hs:=sM (m:=m) (n:= !decide (z<0)) (k:=z.natAbs) (bJe h.len (by decide))
 rw[aSL]at hs
 refine bY rfl func105 bGQ rfl ?_
 simp only[f105,N1,bD,bJ,bM,bL,bH,zB,zG]
 simp (disch:=first|rfl|omega)only[S1,zB,reduceCtorEq,zD,zG,zH,TI,aT,vJ 63 rfl,(hs _).2]
theorem aGd{z:Int}(h:aX 9000000 z.natAbs):CC (VX (m+3)) 105 [tI z] (tI (-z)):= .of (vL z) (vM z) (bHy h)
theorem bFC:bQ PG 103 f103 [4,27] []=true:=by kernel_rfl
theorem bHd{z w:Int}(h:aX 8000000 z.natAbs)(h':aX 8000000 w.natAbs):VX (m+4) 103 [tI z,tI w]=some (tI (z+w),false):=by
 have n1:=aAw (m:=m) (h.mono (k:=9000000) (by decide))
 have l:=aAw (m:=m) (h'.mono (k:=9000000) (by decide))
 refine bY rfl func103 bFC rfl ?_
 simp only[f103,N1,bD,bJ,bM,bL,bH,zB,zG]
 simp (disch:=first|rfl|omega)only[S1,zB,reduceCtorEq,zD,zG,zH,TI,aT,(n1 _).1,(l _).1,vZ,aJC]
 have p:=h.len
 have l2:=h'.len
 refine cJ (fun e=> ?_) (fun e=> ?_)
 ·have f:=bFt (m:=m+1) (xs:=aO z.natAbs) (ys:=aO w.natAbs) (by omega) (by omega) (cV _) (cV _)
  rw[cO,cO]at f
  have hs:=sM (m:=m+1) (n:=decide (z<0)) (k:=z.natAbs+w.natAbs) (bJe ((h.add h').len) (by decide))
  have c:sg (decide (z<0)) (z.natAbs+w.natAbs)=z+w:=by
   simp only[beq_iff_eq,decide_eq_decide]at e
   by_cases c:z<0
   ·simp only[sg,c,decide_true,if_true];omega
   ·simp only[sg,c,decide_false];simp;omega
  rw[c]at hs
  simp (disch:=first|rfl|omega)only[S1,zB,reduceCtorEq,zD,zG,zH,TI,aT,(f _).1,(hs _).1]
 ·have d:decide (z<0)≠decide (w<0):=by simpa using e
  have hc:=aHV (m:=m+2) (a:=z.natAbs) (b:=w.natAbs) (by omega)
  by_cases g:z.natAbs<w.natAbs
  ·rw[if_pos g]at hc
   have f:=aQ2 (m:=m+1) (xs:=aO w.natAbs) (ys:=aO z.natAbs) (by omega) (oO (by omega)) (cV _) (cV _) (by rw[cO,cO];omega)
   rw[cO,cO]at f
   have hs:=sM (m:=m+1) (n:=decide (w<0)) (k:=w.natAbs-z.natAbs) (bJe ((h'.le (Nat.sub_le _ _)).len) (by decide))
   have c:sg (decide (w<0)) (w.natAbs-z.natAbs)=z+w:=by
    by_cases c:w<0
    ·simp only[sg,c,decide_true,if_true];simp only[c,decide_true,ne_eq,decide_eq_true_eq]at d;omega
    ·simp only[sg,c,decide_false];simp only[c,decide_false,ne_eq,decide_eq_false_iff_not,Decidable.not_not]at d;simp;omega
   rw[c]at hs
   simp (disch:=first|rfl|omega)only[S1,aC,aE,aM,aJ,zB,reduceCtorEq,zD,zG,zH,TI,aT,vJ 68 rfl,(hc _).2,(f _).1,(hs _).1,aVS]
  ·rw[if_neg g]at hc
   obtain⟨r,o⟩:∃r:Nat,(if w.natAbs<z.natAbs then(1:Int)else 0)=(r:Int):=by
    split
    ·exact⟨1,rfl⟩
    ·exact⟨0,rfl⟩
   rw[o]at hc
   have f:=aQ2 (m:=m+1) (xs:=aO z.natAbs) (ys:=aO w.natAbs) (by omega) (oO (by omega)) (cV _) (cV _) (by rw[cO,cO];omega)
   rw[cO,cO]at f
   have hs:=sM (m:=m+1) (n:=decide (z<0)) (k:=z.natAbs-w.natAbs) (bJe ((h.le (Nat.sub_le _ _)).len) (by decide))
   have c:sg (decide (z<0)) (z.natAbs-w.natAbs)=z+w:=by
    by_cases c:z<0
    ·simp only[sg,c,decide_true,if_true];simp only[c,decide_true,ne_eq,Bool.true_eq,decide_eq_true_eq]at d;omega
    ·simp only[sg,c,decide_false];simp only[c,decide_false,ne_eq,Bool.false_eq,decide_eq_false_iff_not,Decidable.not_not]at d;simp;omega
   rw[c]at hs
   simp (disch:=first|rfl|omega)only[S1,aC,aE,aM,aJ,zB,reduceCtorEq,zD,zG,zH,TI,aT,vJ 68 rfl,(hc _).2,(f _).1,(hs _).1,bIR]
theorem aDS{z w:Int}(h:aX 8000000 z.natAbs)(h':aX 8000000 w.natAbs):CC (VX (m+4)) 103 [tI z,tI w] (tI (z+w)):= .of (mG z w) (mF z w) (bHd h h')
end
section
variable {m:Nat}
theorem bFn:bQ PG 282 f282 [4] []=true:=by kernel_rfl
theorem bHr{z w:Int}(h:aX 8000000 z.natAbs)(h':aX 8000000 w.natAbs):VX (m+5) 282 [tI z,tI w]=some (tI (z-w),false):=by
 have hn:=aGd (m:=m+1) (h'.mono (k:=9000000) (by decide))
 have i:=aDS (m:=m) (w:= -w) h (by rw[bLg];exact h')
 rw[←Int.sub_eq_add_neg]at i
 refine bY rfl func282 bFn rfl ?_
 simp only[f282,N1,bD,bJ,bM,bL,bH,zB,zG]
 simp (disch:=first|rfl|omega)only[S1,zB,reduceCtorEq,zD,zG,zH,TI,hn _,i _]
theorem aKc{z w:Int}(h:aX 8000000 z.natAbs)(h':aX 8000000 w.natAbs):CC (VX (m+5)) 282 [tI z,tI w] (tI (z-w)):= .of (mG z w) (mF z w) (bHr h h')
theorem bEb:bQ PG 23 f23 [2] []=true:=by kernel_rfl
theorem bEU{z:Int}(h:aX 9000000 z.natAbs):VX (m+4) 23 [tI z]=some (.int .i64 z.sign,false):=by
 have hn:=aAw (m:=m) h
 refine bY rfl func23 bEb rfl ?_
 simp only[f23,N1,bD,bJ,bM,bL,bH,zB,zG]
 simp (disch:=first|rfl|omega)only[S1,aN,aC,aE,aM,aJ,zB,reduceCtorEq,zD,zG,zH,TI,aT,vJ 67 rfl,hn _]
 refine cJ (fun e=> ?_) (fun e=> ?_)
 ·have e0:(aO z.natAbs).length=0:=of_decide_eq_true e
  have c:z=0:=by have:=sE.1 (bJA e0);omega
  simp (disch:=first|rfl|omega)only[S1,aC,aE,aM,aJ,zB,reduceCtorEq]
  rw[c];rfl
 ·have e0:¬(aO z.natAbs).length=0:=of_decide_eq_false e
  have c:z≠0:=fun c=>e0 (by rw[c,Int.natAbs_zero,gW];rfl)
  simp (disch:=first|rfl|omega)only[S1,zB,reduceCtorEq,zD,zG,zH,aT]
  refine cJ (fun e=> ?_) (fun e=> ?_)
  ·have g:z<0:=of_decide_eq_true e
   simp (disch:=first|rfl|omega)only[S1,aC,aE,aM,aJ,zB,reduceCtorEq]
   rw[bK8 g]
  ·have g:¬z<0:=of_decide_eq_false e
   simp (disch:=first|rfl|omega)only[S1,aC,aE,aM,aJ,zB,reduceCtorEq]
   rw[bK5 (by omega)];rfl
theorem aDD{z:Int}(h:aX 9000000 z.natAbs):CC (VX (m+4)) 23 [tI z] (.int .i64 z.sign):= .of (vL z) (vM z) (bEU h)
theorem bGA:bQ PG 230 f230 [4] []=true:=by kernel_rfl
theorem bHQ{z w:Int}(h:aX 8000000 z.natAbs)(h':aX 8000000 w.natAbs):VX (m+6) 230 [tI z,tI w]=some (.int .i64 (z-w).sign,false):=by
 have h1:=aKc (m:=m) h h'
 have h2:=aDD (m:=m+1) (z:=z-w) (aX.mono (j:=8000001) (aX.le (aX.add h h') (by omega)) (by decide))
 refine bY rfl func230 bGA rfl ?_
 simp only[f230,N1,bD,bJ,bM,bL,bH,zB,zG]
 simp (disch:=first|rfl|omega)only[S1,aC,aE,aM,aJ,zB,reduceCtorEq,zD,zG,zH,TI,vJ 282 rfl,vJ 23 rfl,h1 _,h2 _]
theorem bHX{z w:Int}(h:aX 8000000 z.natAbs)(h':aX 8000000 w.natAbs):CC (VX (m+6)) 230 [tI z,tI w] (.int .i64 (z-w).sign):= .of (mG z w) (mF z w) (bHQ h h')
theorem bFR:bQ PG 104 f104 [4] []=true:=by kernel_rfl
theorem bHW{z w:Int}(h:aX 3000000 z.natAbs)(h':aX 3000000 w.natAbs):VX (m+4) 104 [tI z,tI w]=some (tI (z*w),false):=by
 have n1:=aAw (m:=m) (h.mono (k:=9000000) (by decide))
 have B:=aAw (m:=m) (h'.mono (k:=9000000) (by decide))
 have C:=h.len
 have l2:=h'.len
 have A:=bD7 (m:=m+1) (xs:=aO z.natAbs) (ys:=aO w.natAbs) (by omega) (by omega) (cV _) (cV _)
 rw[cO,cO]at A
 have hs:=sM (m:=m+1) (n:= !(decide (z<0)==decide (w<0))) (k:=z.natAbs*w.natAbs) (bJe ((h.mul h').len) (by decide))
 have c:sg (!(decide (z<0)==decide (w<0))) (z.natAbs*w.natAbs)=z*w:=by
  have ea:(z.natAbs*w.natAbs:Nat)=(z*w).natAbs:=(bJJ z w).symm
  rw[ea]
  by_cases c:z<0<;>by_cases d:w<0
  ·have:=Int.mul_pos_of_neg_of_neg c d
   simp only[sg,c,d,decide_true];simp;omega
  ·have:=Int.mul_nonpos_of_nonpos_of_nonneg (bMl c) (bKY.1 d)
   simp only[sg,c,d,decide_true,decide_false];simp;omega
  ·have:=Int.mul_nonpos_of_nonneg_of_nonpos (bKY.1 c) (bMl d)
   simp only[sg,c,d,decide_true,decide_false];simp;omega
  ·have:=Int.mul_nonneg (bKY.1 c) (bKY.1 d)
   simp only[sg,c,d,decide_false];simp;omega
 rw[c]at hs
 refine bY rfl func104 bFR rfl ?_
 simp only[f104,N1,bD,bJ,bM,bL,bH,zB,zG]
 simp (disch:=first|rfl|omega)only[S1,zB,reduceCtorEq,zD,zG,zH,TI,aT,(n1 _).1,(B _).1,vZ,aBD,(A _).1,(hs _).1]
theorem qP{z w:Int}(h:aX 3000000 z.natAbs)(h':aX 3000000 w.natAbs):CC (VX (m+4)) 104 [tI z,tI w] (tI (z*w)):= .of (mG z w) (mF z w) (bHW h h')
theorem aJ8{xs:List Nat}(l:xs.length<10000000):CC (VX (m+1)) 65 [tW xs] (tW (cG xs)):= .of (vH _) (by simp only[bW,fJ];decide) (bGE l)
theorem aO4{a b:Nat}(D:0<b)(i:(aO a).length<=2000000)(o:(aO b).length<=2000000):CC (VX (m+4)) 66 [tW (aO a),tW (aO b)] (.tp [tW (aO (a/b)),tW (aO (a%b))]):= .of (vB _ _) (by simp only[bW,fJ];decide) (bA9 D i o)
theorem aXP{x r:Nat}(h:2*r<x):blen r+1<=blen x:=by
 have h1:=aL0 x
 have hx:blen x≠0:=fun e=>by rw[e]at h1;omega
 obtain⟨k,E⟩:∃k,blen x=k+1:=⟨blen x-1,by omega⟩
 rw[E,bJ1]at h1
 have:=aBP (k:=k) (x:=r) (by omega)
 omega
theorem aF7{k n:Nat}(h:aX k n):blen n<=32*k:=aBP (by rw[Nat.pow_mul];exact h)
def oC(x y:Nat):Nat:=blen x+blen y+(if x<y then 1 else 0)
theorem aMW{x y:Nat}(f:0<y):oC y (x%y)<oC x y:=by
 unfold oC
 rw[if_neg (bMm.2 (bJg (bJa _ f)))]
 by_cases h:x<y
 ·rw[if_pos h,bJo h];omega
 ·rw[if_neg h]
  have h1:2*(x%y)<x:=by
   have h2:=bJa x f
   have I:=bK4 x y
   have F:1<=x/y:=bLQ (by omega) f
   have J:y<=y*(x/y):=bLh y F
   omega
  have:=aXP h1
  omega
theorem bGc:bQ PG 22 f22 [4,17] []=true:=by kernel_rfl
theorem bHR{z w:Int}(h:aX 150000 z.natAbs)(h':aX 150000 w.natAbs):VX (m+5) 22 [tI z,tI w]=some (tI (Int.gcd z w:Nat),false):=by
 have C:=h.len
 have l2:=h'.len
 have t1:=aJ8 (m:=m+3) (xs:=aO z.natAbs) (by omega)
 have t2:=aJ8 (m:=m+3) (xs:=aO w.natAbs) (by omega)
 rw[kH]at t1 t2
 refine bY rfl func22 bGc rfl ?_
 simp only[f22,N1,bD,bJ,bM,bL,bH,zB,zG]
 simp (disch:=first|rfl|omega)only[S1,zB,reduceCtorEq,zD,zG,zH,TI,aT,(t1 _).1,(t2 _).1]
 refine .loop (fun n e s=>s.nxt=3/\s.ob 2=⟨0,[.b false,.nil]⟩/\e 4=some (.po 2 0)/\∃x y,e 5=some (tW (aO x))/\e 6=some (tW (aO y))/\aX 150000 x/\aX 150000 y/\Nat.gcd x y=Int.gcd z w/\n=oC x y) (oC z.natAbs w.natAbs) ?_ (dC ?_) ?_
 ·refine⟨rfl,rfl, ?_⟩
  simp (disch:=first|rfl|omega)only[S1,zB]
  exact⟨_,_,rfl,rfl,h,h',rfl,rfl⟩
 ·have K:=aF7 h
  have L:=aF7 h'
  unfold oC
  split<;>omega
 ·rintro n e s ⟨sn,so,p,x,y,q,t,fx,fy,u,rfl⟩
  have lx:=fx.len
  have ly:=fy.len
  simp (disch:=first|rfl|omega)only[S1,aN,aC,aE,aM,aJ,zB,t]
  refine cJ (fun hc=> ?_) (fun hc=> ?_)
  ·have f:0<y:=by have h0:0<(aO y).length:=of_decide_eq_true hc;rw[zW]at h0;omega
   have G:=aO4 (m:=m) (a:=x) (b:=y) f (by omega) (by omega)
   simp (disch:=first|rfl|omega)only[S1,zB,p,q,t,sn,so,vJ 66 rfl,(G _).2]
   exact⟨oC y (x%y),aMW f,_,_,rfl,rfl,fy,fy.le (bJg (bJa _ f)),(aIH x y).trans u,rfl⟩
  ·have h0:¬0<(aO y).length:=of_decide_eq_false hc
   rw[zW]at h0
   obtain rfl:y=0:=by omega
   rw[Nat.gcd_zero_right]at u
   have hs:=sM (m:=m+2) (n:=false) (k:=x) (by omega)
   rw[show sg false x=((Int.gcd z w:Nat):Int) by rw[←u];rfl]at hs
   simp (disch:=first|rfl|omega)only[S1,aC,aE,aM,aJ,zB,reduceCtorEq,zD,zG,zH,p,q,sn,so,TI,vJ 63 rfl,(hs _).2]
theorem aDT{z w:Int}(h:aX 150000 z.natAbs)(h':aX 150000 w.natAbs):CC (VX (m+5)) 22 [tI z,tI w] (tI (Int.gcd z w:Nat)):= .of (mG z w) (mF z w) (bHR h h')
theorem aAi{et:fO}{k:bQc}{z:Int}:bX et .lss (.int k z) (.int k ((0:Nat):Int))=some (.b (decide (z<0))):=by simp [bX,dY]
theorem aA0(z:Int):IntKind.u64.wrap z=z%18446744073709551616:=by
 have v:(2^IntKind.u64.bits:Int)=18446744073709551616:=rfl
 unfold IntKind.wrap
 simp only[v,IntKind.signed,Bool.false_and,bIY,if_false]
theorem aOK{n:Nat}(h:n<18446744073709551616)(h0:0<n):zJ .neg (.int .u64 ((18446744073709551616-n:Nat):Int))=some (.int .u64 (n:Nat)):=by
 simp only[zJ]
 rw[aA0]
 congr 2
 omega
theorem nui:oE PG 2 103=some .u64:=by kernel_rfl
theorem aVN:bQ PG 20 f20 [2] []=true:=by kernel_rfl
theorem aXz{z:Int}(h1: -9223372036854775808<=z)(h2:z<9223372036854775808):VX (m+4) 20 [.int .i64 z]=some (tI z,false):=by
 have d:=aFv (m:=m+1) (n:=z.natAbs) (by omega)
 have l:(aO z.natAbs).length<10000000:=bJe (lY (k:=2) (by show z.natAbs<18446744073709551616;omega)) (by decide)
 refine bY rfl func20 aVN rfl ?_
 simp only[f20,N1,bD,bJ,bM,bL,bH,zB,zG]
 simp (disch:=first|rfl|omega)only[S1,aC,aE,aM,aJ,zB,aAi]
 refine cJ (fun hc=> ?_) (fun hc=> ?_)
 ·have h0:z<0:=of_decide_eq_true hc
  have g:IntKind.u64.wrap z=((18446744073709551616-z.natAbs:Nat):Int):=by rw[aA0];omega
  have H:=aOK (n:=z.natAbs) (by omega) (by omega)
  have hs:=sM (m:=m+1) (n:=true) (k:=z.natAbs) l
  rw[show sg true z.natAbs=z by simp only[sg,if_true];omega]at hs
  simp (disch:=first|rfl|omega)only[S1,aC,aE,aM,aJ,zB,reduceCtorEq,zD,zG,zH,TI,g,H,vJ 64 rfl,(d _).2,vJ 63 rfl,(hs _).2]
 ·have h0:¬z<0:=of_decide_eq_false hc
  have g:IntKind.u64.wrap z=((z.natAbs:Nat):Int):=by rw[aA0];omega
  have hs:=sM (m:=m+1) (n:=false) (k:=z.natAbs) l
  rw[show sg false z.natAbs=z by simp only[sg];simp;omega]at hs
  simp (disch:=first|rfl|omega)only[S1,aC,aE,aM,aJ,zB,reduceCtorEq,zD,zG,zH,TI,g,vJ 64 rfl,(d _).2,vJ 63 rfl,(hs _).2]
theorem aBj{z:Int}(h1: -9223372036854775808<=z)(h2:z<9223372036854775808):CC (VX (m+4)) 20 [.int .i64 z] (tI z):= .of (Can.cons (cP.int _ _) Can.nil) (by simp only[bW,dA];decide) (aXz h1 h2)
end
end Go.Proofs.YtmjoaipkaddkbaaGreatDoor.Ev
namespace Go.Proofs.YtmjoaipkaddkbaaGreatDoor
section
theorem aMv{a g:Int}(f:0<=g):a.fdiv g=a/g:=Int.fdiv_eq_ediv_of_nonneg a f
theorem aMo{a g:Int}(h:g∣a):a.fdiv (-g)= -(a/g):=by
 obtain⟨k,rfl⟩:=h
 by_cases h0:g=0
 ·subst h0;simp
 ·rw[bLu _ h0,show g*k=(-g)*(-k) by rw[Int.neg_mul_neg],Int.mul_fdiv_cancel_left _ (by omega)]
theorem aLv{a g:Int}(h:g∣a): -a/g= -(a/g):=by
 obtain⟨k,rfl⟩:=h
 by_cases h0:g=0
 ·subst h0;simp
 ·rw[bLu _ h0,show-(g*k)=g*(-k) by rw[Int.mul_neg],bLu _ h0]
def oD(a b:Int):Int:=if b<0 then-(Int.gcd a b:Int)else(Int.gcd a b:Int)
theorem bCE{a b:Int}(i:b≠0):oD a b≠0:=by
 have:Int.gcd a b≠0:=fun h=>i (Int.gcd_eq_zero_iff.1 h).2
 unfold oD
 split<;>omega
theorem bCr{a b:Int}(i:b≠0):a.fdiv (oD a b)=(Rat.divInt a b).num:=by
 rw[Rat.num_divInt,Int.gcd_comm b a]
 unfold oD
 have c:(Int.gcd a b:Int)∣a:=Int.gcd_dvd_left _ _
 split
 ·next h=>rw[bK8 h,aMo c,show-1*a= -a by omega,aLv c]
 ·next h=>rw[bK5 (by omega),Int.one_mul,aMv (by omega)]
theorem bEE{a b:Int}(i:b≠0):b.fdiv (oD a b)=((Rat.divInt a b).den:Int):=by
 rw[Rat.den_divInt,Int.gcd_comm b a,if_neg i]
 unfold oD
 have c:(Int.gcd a b:Int)∣b:=Int.gcd_dvd_right _ _
 have hn:Int.gcd a b∣b.natAbs:=bLR.1 c
 split
 ·next h=>
  rw[aMo c,Int.natCast_ediv]
  rw[show((b.natAbs:Nat):Int)= -b by omega,aLv c]
 ·next h=>rw[aMv (by omega),Int.natCast_ediv,show((b.natAbs:Nat):Int)=b by omega]
theorem bEt(a b:Rat):Rat.divInt (a.num*b.den+b.num*a.den) ((a.den*b.den:Nat):Int)=a+b:=by rw[Rat.add_def',Rat.divInt_ofNat]
theorem bDz(a b:Rat):Rat.divInt (a.num*b.num) ((a.den*b.den:Nat):Int)=a*b:=by rw[Rat.mul_def',Rat.divInt_ofNat]
theorem bDa(a b:Rat):Rat.divInt (a.num*b.den) ((a.den:Int)*b.num)=a/b:=by
 rw[Rat.div_def,Rat.inv_def]
 conv=>rhs;rw[←Rat.num_divInt_den a]
 rw[Rat.divInt_mul_divInt]
theorem aEq{q:Rat}:q.den=1↔q=(q.num:Rat):=⟨fun h=>Rat.ext rfl h,fun h=>by rw[h];rfl⟩
theorem aP6{a b:Rat}(E:a.den=1)(i:b.den=1):(a+b).num=a.num+b.num/\(a+b).den=1:=by
 rw[aEq.1 E,aEq.1 i,←Rat.intCast_add]
 exact⟨rfl,rfl⟩
theorem aP7{a b:Rat}(E:a.den=1)(i:b.den=1):(a*b).num=a.num*b.num/\(a*b).den=1:=by
 rw[aEq.1 E,aEq.1 i,←Rat.intCast_mul]
 exact⟨rfl,rfl⟩
theorem aT9{q:Rat}{n:Int}{d:Nat}(c:d≠0)(hc:n.natAbs.Coprime d)(h:n*q.den=q.num*d):q.num=n/\q.den=d:=by
 have:q=⟨n,d,c,hc⟩:=by
  rw[Rat.eq_iff_mul_eq_mul]
  exact h.symm
 rw[this]
 exact⟨rfl,rfl⟩
theorem aN6(a b:Rat)(g:Nat)(f:g=Nat.gcd a.den b.den)(n:Int)(hn:n=a.num*(b.den/g:Nat)+b.num*(a.den/g:Nat))(h:Nat)(hh:h=Nat.gcd n.natAbs g):
  (a+b).num=n/h/\(a+b).den=(a.den/g)*(b.den/h):=by
 have e:Nat.gcd n.natAbs g=Nat.gcd n.natAbs ((a.den/g)*b.den):=by
  rw[hn]
  exact Rat.add.aux a b f rfl rfl
 have j:0<g:=by rw[f];exact Nat.gcd_pos_of_pos_left _ a.den_pos
 have ga:g∣a.den:=f ▸ bLv _ _
 have gb:g∣b.den:=f ▸ bLS _ _
 have h0:0<h:=by rw[hh];exact bLw _ j
 have F:h∣g:=hh ▸ bLS _ _
 have o:h∣b.den:=Nat.dvd_trans F gb
 have s:(h:Int)∣n:=bLR.2 (hh ▸ bLv _ _)
 have H:(a.den/g)*(b.den/h)=(a.den/g)*b.den/h:=(Nat.mul_div_assoc _ o).symm
 have t:(a.den/g)*(b.den/h)≠0:=Nat.ne_of_gt (bJH (bLQ (bLi a.den_pos ga) j) (bLQ (bLi b.den_pos o) h0))
 refine aT9 t ?_ ?_
 ·rw[H]
  have:(n/(h:Int)).natAbs=n.natAbs/h:=by
   rw[Int.natAbs_ediv_of_dvd s];rfl
  rw[this]
  have A:h=Nat.gcd n.natAbs ((a.den/g)*b.den):=hh.trans e
  conv=>arg 1;rw[A]
  conv=>arg 2;rw[A]
  exact Nat.coprime_div_gcd_div_gcd (by rw[←A];exact h0)
 ·obtain⟨x,hx⟩:=ga
  obtain⟨y,C⟩:=gb
  obtain⟨u,B⟩:=o
  obtain⟨v,D⟩:=s
  have ex:a.den/g=x:=by rw[hx,bLT _ j]
  have ey:b.den/g=y:=by rw[C,bLT _ j]
  have eu:b.den/h=u:=by rw[B,bLT _ h0]
  have ev:n/(h:Int)=v:=by rw[D,bLu _ (by omega)]
  rw[ex,eu,ev]
  have key:(a+b).num*(a.den*b.den:Nat)=(a.num*b.den+b.num*a.den)*(a+b).den:=by
   have h1:a+b=mkRat (a.num*b.den+b.num*a.den) (a.den*b.den):=Rat.add_def' a b
   have h2:=(Rat.mkRat_eq_iff (a+b).den_nz (Nat.mul_ne_zero a.den_nz b.den_nz)).1 ((Rat.mkRat_self (a+b)).trans h1)
   exact h2
  rw[ex,ey]at hn
  have p:(g:Int)≠0:=by omega
  have r:(h:Int)≠0:=by omega
  have k2:(v*(a+b).den-(a+b).num*(x*u:Nat))*((g:Int)*g*h)=0:=by
   have I:(a.den:Int)=g*x:=by rw[hx];push_cast;rfl
   have A:(b.den:Int)=g*y:=by rw[C];push_cast;rfl
   have K:(b.den:Int)=h*u:=by rw[B];push_cast;rfl
   push_cast at key ⊢
   grind
  rcases bLU.1 k2 with k|k
  ·omega
  ·rcases bLU.1 k with k|k
   ·rcases bLU.1 k with k|k<;>exact absurd k p
   ·exact absurd k r
theorem aYk(a b:Rat)(g h:Nat)(f:g=Nat.gcd a.num.natAbs b.den)(hh:h=Nat.gcd b.num.natAbs a.den):
  (a*b).num=(a.num/g)*(b.num/h)/\(a*b).den=(a.den/h)*(b.den/g):=by
 have j:0<g:=by rw[f];exact bLw _ b.den_pos
 have h0:0<h:=by rw[hh];exact bLw _ a.den_pos
 have d1:(g:Int)∣a.num:=bLR.2 (f ▸ bLv _ _)
 have d2:(h:Int)∣b.num:=bLR.2 (hh ▸ bLv _ _)
 have d3:g∣b.den:=f ▸ bLS _ _
 have d4:h∣a.den:=hh ▸ bLS _ _
 have n1:(a.num/(g:Int)).natAbs=a.num.natAbs/g:=by rw[Int.natAbs_ediv_of_dvd d1];rfl
 have J:(b.num/(h:Int)).natAbs=b.num.natAbs/h:=by rw[Int.natAbs_ediv_of_dvd d2];rfl
 refine aT9 (Nat.ne_of_gt (bJH (bLQ (bLi a.den_pos d4) h0) (bLQ (bLi b.den_pos d3) j))) ?_ ?_
 ·rw[bJJ,n1,J]
  refine bMo.mul_left (bMo.mul_right ?_ ?_) (bMo.mul_right ?_ ?_)
  ·exact(a.reduced.coprime_div_left (f ▸ bLv _ _)).coprime_div_right d4
  ·have:=Nat.coprime_div_gcd_div_gcd (m:=a.num.natAbs) (n:=b.den) (by rw[←f];exact j)
   rwa [←f]at this
  ·have:=Nat.coprime_div_gcd_div_gcd (m:=b.num.natAbs) (n:=a.den) (by rw[←hh];exact h0)
   rwa [←hh]at this
  ·exact(b.reduced.coprime_div_left (hh ▸ bLv _ _)).coprime_div_right d3
 ·obtain⟨x,hx⟩:=d1
  obtain⟨y,C⟩:=d2
  obtain⟨u,B⟩:=d3
  obtain⟨v,D⟩:=d4
  have ex:a.num/(g:Int)=x:=by rw[hx,bLu _ (by omega)]
  have ey:b.num/(h:Int)=y:=by rw[C,bLu _ (by omega)]
  have eu:b.den/g=u:=by rw[B,bLT _ j]
  have ev:a.den/h=v:=by rw[D,bLT _ h0]
  rw[ex,ey,eu,ev]
  have key:(a*b).num*(a.den*b.den:Nat)=(a.num*b.num)*(a*b).den:=by
   have h1:a*b=mkRat (a.num*b.num) (a.den*b.den):=Rat.mul_def' a b
   exact(Rat.mkRat_eq_iff (a*b).den_nz (Nat.mul_ne_zero a.den_nz b.den_nz)).1 ((Rat.mkRat_self (a*b)).trans h1)
  have p:(g:Int)≠0:=by omega
  have r:(h:Int)≠0:=by omega
  have k2:((x*y)*(a*b).den-(a*b).num*(v*u:Nat))*((g:Int)*h)=0:=by
   have I:(a.den:Int)=h*v:=by rw[D];push_cast;rfl
   have A:(b.den:Int)=g*u:=by rw[B];push_cast;rfl
   push_cast at key ⊢
   grind
  rcases bLU.1 k2 with k|k
  ·omega
  ·rcases bLU.1 k with k|k
   ·exact absurd k p
   ·exact absurd k r
def fW(q:Rat):Int:=q.num.sign
theorem aJb(a b:Rat):fW (a-b)=(a.num*b.den-b.num*a.den).sign:=by
 unfold fW
 have c:a.den*b.den≠0:=Nat.mul_ne_zero a.den_nz b.den_nz
 have key:(a-b).num*(a.den*b.den:Nat)=(a.num*b.den-b.num*a.den)*(a-b).den:=by
  have h1:a-b=mkRat (a.num*b.den-b.num*a.den) (a.den*b.den):=Rat.sub_def' a b
  exact(Rat.mkRat_eq_iff (a-b).den_nz c).1 ((Rat.mkRat_self (a-b)).trans h1)
 have h1:((a-b).num*(a.den*b.den:Nat)).sign=(a-b).num.sign:=by rw[bMp,bK5 (a:=((a.den*b.den:Nat):Int)) (by omega),Int.mul_one]
 have h2:((a.num*b.den-b.num*a.den)*(a-b).den).sign=(a.num*b.den-b.num*a.den).sign:=by
  rw[bMp,bK5 (a:=((a-b).den:Int)) (by have:=(a-b).den_pos;omega),Int.mul_one]
 rw[←h1,key,h2]
theorem aOd{z w:Int}(h:¬w∣z):(0<=z->0<z.tmod w)/\(z<0->z.tmod w<0):=by
 have t:z.tmod w≠0:=fun e=>h (Int.dvd_of_tmod_eq_zero e)
 refine⟨fun l=> ?_,fun l=> ?_⟩
 ·have:=Int.tmod_nonneg w l;omega
 ·have h1:=Int.tmod_nonneg w (a:= -z) (by omega)
  rw[Int.neg_tmod]at h1;omega
theorem bCJ{z w:Int}(h:(z.tmod w).sign*w.sign<0):z.fdiv w=z.tdiv w-1/\z.fmod w=z.tmod w+w:=by
 have key:z.fdiv w=z.tdiv w-1:=by
  rw[Int.fdiv_eq_tdiv]
  split
  ·next c=>rw[Int.tmod_eq_zero_of_dvd c]at h;simp at h
  ·next c=>
   obtain⟨h1,h2⟩:=aOd c
   split
   ·next l=>
    rw[bK5 (h1 l)]at h
    split
    ·next hw=>have:0<=w.sign:=Int.sign_nonneg_iff.2 hw;omega
    ·rfl
   ·next l=>
    rw[bK8 (h2 (by omega))]at h
    rcases bLx w 0 with hw|rfl|hw
    ·rw[bK8 hw]at h;omega
    ·simp at h
    ·rw[if_pos (by omega),bK5 hw]
 refine⟨key, ?_⟩
 rw[Int.fmod_def,key,Int.mul_sub,Int.tmod_def]
 omega
theorem bFy{z w:Int}(h:¬(z.tmod w).sign*w.sign<0)(G:w≠0):z.fdiv w=z.tdiv w/\z.fmod w=z.tmod w:=by
 have key:z.fdiv w=z.tdiv w:=by
  rw[Int.fdiv_eq_tdiv]
  split
  ·omega
  ·next c=>
   obtain⟨h1,h2⟩:=aOd c
   split
   ·next l=>
    rw[bK5 (h1 l)]at h
    split
    ·omega
    ·next hw=>rw[bK8 (by omega)]at h;omega
   ·next l=>
    rw[bK8 (h2 (by omega))]at h
    rcases bLx w 0 with hw|rfl|hw
    ·rw[if_neg (by omega),bK8 hw];omega
    ·exact absurd rfl G
    ·rw[bK5 hw]at h;omega
 refine⟨key, ?_⟩
 rw[Int.fmod_def,key,Int.tmod_def]
end
end Go.Proofs.YtmjoaipkaddkbaaGreatDoor
namespace Go.Proofs.YtmjoaipkaddkbaaGreatDoor.Ev
section
variable {m:Nat}
theorem bEz(z w:Int):sg (!(decide (z<0)==decide (w<0))) (z.natAbs/w.natAbs)=z.tdiv w:=by
 have p:∀n:Nat,decide (Int.ofNat n<0)=false:=fun n=>decide_eq_false (by simp)
 have q:∀n:Nat,decide (Int.negSucc n<0)=true:=fun n=>decide_eq_true (Int.negSucc_lt_zero n)
 cases z with
 |ofNat a=>cases w with
  |ofNat b=>rw[p,p];rfl
  |negSucc b=>rw[p,q];rfl
 |negSucc a=>cases w with
  |ofNat b=>rw[p,q];rfl
  |negSucc b=>rw[q,q];rfl
theorem aX.mulE{j k l n n':Nat}(h:aX j n)(h':aX k n')(e:j+k<=l):aX l (n*n'):=(h.mul h').mono e
theorem aX.one{k:Nat}(h:1<=k):aX k 1:=bIP (by decide:1<4294967296^1) (bJ9 (by decide) h)
theorem aX.le'{j k n n':Nat}(h:aX j n)(hn:n'<=n)(e:j<=k):aX k n':=(h.le hn).mono e
theorem aCE(z:Int): -1<=z.sign/\z.sign<=1:=by
 rcases bLx z 0 with h|rfl|h
 ·rw[bK8 h];decide
 ·decide
 ·rw[bK5 h];decide
theorem bEl{et:fO}{z w:Int}:bX et .mul (.int .i64 z.sign) (.int .i64 w.sign)=some (.int .i64 (z.sign*w.sign)):=by
 have h1:=aCE z
 have h2:=aCE w
 have: -1<=z.sign*w.sign/\z.sign*w.sign<=1:=by
  rw[←bMp];exact aCE _
 simp only[bX,dY,if_true]
 rw[uP (by omega) (by omega)]
theorem bEJ(z w e:Int):Can [tI z,tI w,.int .i64 e]:=Can.cons (uW z) (Can.cons (uW w) (Can.cons (cP.int _ _) Can.nil))
theorem aCX{s:VS}{z w e:Int}:dM s [tI z,tI w,.int .i64 e]=some (.tp [tI z,tI w,.int .i64 e],false):=aBy (bEJ z w e) (by simp only[bW,dA,aBX];decide)
theorem aYC:bQ PG 228 f228 [6,5,4,46,18] [(10,[(10,4)])]=true:=by kernel_rfl
theorem bAz{z w:Int}(h:aX 900000 z.natAbs)(h':aX 900000 w.natAbs)(c:w≠0):VX (m+8) 228 [tI z,tI w]=some (.tp [tI (z.fdiv w),tI (z.fmod w),.int .i64 ((0:Nat):Int)],false):=by
 have n1:=aAw (m:=m+4) (h.mono (k:=9000000) (by decide))
 have o:=aAw (m:=m+4) (h'.mono (k:=9000000) (by decide))
 refine bY rfl func228 aYC rfl ?_
 simp only[f228,N1,bD,bJ,bM,bL,bH,zB,zG]
 simp (disch:=first|rfl|omega)only[S1,aN,aC,aE,aM,aJ,zB,zC,reduceCtorEq,zD,zG,zH,TI,aT,(n1 _).1,(o _).1]
 have lw:(aO w.natAbs).length≠0:=fun e=>c (by have:=sE.1 (bJA e);omega)
 have v:=h.len
 have l2:=h'.len
 have d:=aO4 (m:=m+3) (a:=z.natAbs) (b:=w.natAbs) (by omega) (by omega) (by omega)
 have hq:aX 900000 (z.natAbs/w.natAbs):=h.le (bKc _ _)
 have hs:=sM (m:=m+5) (n:= !(decide (z<0)==decide (w<0))) (k:=z.natAbs/w.natAbs) (bJe hq.len (by decide))
 have eq:=bEz z w
 rw[eq]at hs
 have fq:aX 900000 (z.tdiv w).natAbs:=by rw[Int.natAbs_tdiv];exact hq
 have r:=qP (m:=m+3) (z:=z.tdiv w) (w:=w) (fq.mono (by decide)) (h'.mono (by decide))
 have f:=aKc (m:=m+2) (z:=z) (w:=z.tdiv w*w) (h.mono (by decide)) (by rw[bJJ];exact fq.mulE h' (by decide))
 have er:z-z.tdiv w*w=z.tmod w:=by
  have:=Int.mul_tdiv_add_tmod z w
  rw[Int.mul_comm]at this;omega
 rw[er]at f
 refine cJ (fun e=>absurd (of_decide_eq_true e) lw) (fun e=> ?_)
 simp (disch:=first|rfl|omega)only[S1,zB,reduceCtorEq,zD,zG,zH,TI,aT,vJ 66 rfl,(d _).2,vJ 63 rfl,hs _,vZ,aBD,r _,f _]
 have s1:=aDD (m:=m+3) (z:=z.tmod w) (h.le' (by rw[Int.natAbs_tmod];exact bLO _ _) (by decide))
 have t:=aDD (m:=m+3) (z:=w) (h'.mono (by decide))
 simp (disch:=first|rfl|omega)only[S1,aC,aE,aM,aJ,zB,reduceCtorEq,zD,zG,zH,(s1 _).1,(t _).1,bEl,aAi,TI]
 refine cJ (fun e=> ?_) (fun e=> ?_)
 ·obtain⟨f1,f2⟩:=bCJ (of_decide_eq_true e)
  have u:=aBj (m:=m+3) (z:=((1:Nat):Int)) (by decide) (by decide)
  have g:=aKc (m:=m+2) (z:=z.tdiv w) (w:=((1:Nat):Int)) (fq.mono (by decide)) (aX.one (by decide))
  have i:=aDS (m:=m+3) (z:=z.tmod w) (w:=w) (h.le' (by rw[Int.natAbs_tmod];exact bLO _ _) (by decide)) (h'.mono (by decide))
  rw[show z.tdiv w-((1:Nat):Int)=z.fdiv w from f1.symm]at g
  rw[←f2]at i
  simp (disch:=first|rfl|omega)only[S1,aL,aC,aE,aM,aJ,zB,reduceCtorEq,zD,zG,zH,(u _).1,(g _).1,vJ 103 rfl,i _,TI,aCX]
 ·obtain⟨f1,f2⟩:=bFy (of_decide_eq_false e) c
  rw[f1,f2]
  simp (disch:=first|rfl|omega)only[S1,aL,aC,aE,aM,aJ,zB,reduceCtorEq,zD,zG,zH,TI,aCX]
theorem bBv{z w:Int}(h:aX 900000 z.natAbs)(h':aX 900000 w.natAbs)(c:w≠0):CC (VX (m+8)) 228 [tI z,tI w] (.tp [tI (z.fdiv w),tI (z.fmod w),.int .i64 ((0:Nat):Int)]):= .of (mG z w) (mF z w) (bAz h h' c)
end
section
variable {m:Nat}
def cR(q:Rat):List TV:=[.b (decide (q.num<0)),tW (aO q.num.natAbs),.b (decide ((q.den:Int)<0)),tW (aO (q.den:Int).natAbs)]
def tR(q:Rat):TV:= .ag (cR q)
theorem aG7(q:Rat):Can (cR q):=Can.cons (cP.b _) (Can.cons (jB _) (Can.cons (cP.b _) (Can.cons (jB _) Can.nil)))
theorem xW(q:Rat):cP (tR q):=cP.ag (aG7 q)
theorem uZ(q:Rat):dA (tR q)=10:=by simp only[tR,cR,dA,bW,fJ]
theorem aA8{q:Rat}:(tR q).cells=[.b (decide (q.num<0)),tW (aO q.num.natAbs),.b (decide ((q.den:Int)<0)),tW (aO (q.den:Int).natAbs)]:=rfl
theorem aFE{q:Rat}:TV.ag [.b (decide (q.num<0)),tW (aO q.num.natAbs),.b (decide ((q.den:Int)<0)),tW (aO (q.den:Int).natAbs)]=tR q:=rfl
theorem aTo{q:Rat}{z w:Int}(h1:z=q.num)(h2:w=(q.den:Int)):TV.ag [.b (decide (z<0)),tW (aO z.natAbs),.b (decide (w<0)),tW (aO w.natAbs)]=tR q:=by subst h1 h2;rfl
theorem aDy{s:VS}{q:Rat}:dM s [tR q]=some (tR q,false):=sO (xW q) (by rw[uZ];decide)
theorem oU{s:VS}{q:Rat}{z w:Int}(h1:z=q.num)(h2:w=(q.den:Int)):dM s [TV.ag [.b (decide (z<0)),tW (aO z.natAbs),.b (decide (w<0)),tW (aO w.natAbs)]]=some (tR q,false):=by rw[aTo h1 h2];exact aDy
theorem aC4(q:Rat):Can [tR q]:=Can.cons (xW q) Can.nil
theorem pD(q r:Rat):Can [tR q,tR r]:=Can.cons (xW q) (Can.cons (xW r) Can.nil)
theorem aC3(q:Rat):bW [tR q]<=cK:=by simp only[bW,uZ];decide
theorem rP(q r:Rat):bW [tR q,tR r]<=cK:=by simp only[bW,uZ];decide
theorem TQ:type_of%(And.intro @aA8 (And.intro @aFE (And.intro @aDy (And.intro @aBo (And.intro @aBx (@aBV)))))):=(And.intro @aA8 (And.intro @aFE (And.intro @aDy (And.intro @aBo (And.intro @aBx (@aBV))))))
def FR(k:Nat)(q:Rat):Prop:=aX k q.num.natAbs/\aX k q.den
theorem FR.mono{j k:Nat}{q:Rat}(h:FR j q)(e:j<=k):FR k q:=⟨h.1.mono e,h.2.mono e⟩
theorem aEP{z:Int}:((aO z.natAbs).length=1/\(aO z.natAbs).getD 0 0=1/\¬z<0)↔z=1:=by
 constructor
 ·rintro⟨h1,h2,d⟩
  have e:=cO z.natAbs
  match o:aO z.natAbs,h1,h2,e with
  | [x],_,h2,e=>
   simp only[bMh]at h2
   subst h2
   simp [val]at e
   omega
 ·rintro rfl
  have e:aO (1:Int).natAbs=[1]:=by rw[show(1:Int).natAbs=1 from rfl,aO];simp [gW]
  rw[e];decide
theorem rb{x y:Bool}(h:x=y):TV.b x=TV.b y:=by rw[h]
theorem bDy:bQ PG 157 f157 [2] []=true:=by kernel_rfl
theorem bEW{z:Int}:VX (m+1) 157 [tI z]=some (.b (decide (z=1)),false):=by
 refine bY rfl func157 bDy rfl ?_
 simp only[f157,N1,bD,bJ,bM,bL,bH,zB,zG]
 simp (disch:=first|rfl|omega)only[S1]
 simp (disch:=first|rfl|omega)only[S1,aN,aC,aE,aM,aJ,zB,reduceCtorEq,zD,zG,zH,TI,aT]
 refine rR (fun f=> ?_) (fun f=> ?_)
 ·have h1:=of_decide_eq_true f
  simp (disch:=first|rfl|omega)only[S1,aC,aE,aM,aJ,zB,reduceCtorEq,zD,zG,zH,aT,h1]
  refine rR (fun c=> ?_) (fun c=> ?_)
  ·simp (disch:=first|rfl|omega)only[S1,aC,aE,aM,aJ,zB,reduceCtorEq,zD,zG,zH,aT,c]
   refine rb ?_
   have h2:=of_decide_eq_true c
   by_cases d:z<0
   ·rw[decide_eq_true d,decide_eq_false (by omega)];rfl
   ·rw[decide_eq_false d,decide_eq_true (aEP.1 ⟨h1,h2,d⟩)];rfl
  ·simp (disch:=first|rfl|omega)only[S1,aC,aE,aM,aJ,zB,reduceCtorEq,c]
   exact rb (decide_eq_false fun h=>of_decide_eq_false c (aEP.2 h).2.1).symm
 ·simp (disch:=first|rfl|omega)only[S1,aC,aE,aM,aJ,zB,reduceCtorEq,f]
  exact rb (decide_eq_false fun h=>of_decide_eq_false f (aEP.2 h).1).symm
theorem aDx{z:Int}:CC (VX (m+1)) 157 [tI z] (.b (decide (z=1))):= .of (vL z) (vM z) bEW
theorem bEg:bQ PG 158 f158 [4] []=true:=by kernel_rfl
theorem bGL{z w:Int}(h:aX 900000 z.natAbs)(h':aX 900000 w.natAbs)(g:w≠0):VX (m+9) 158 [tI z,tI w]=some (tI (z.fdiv w),false):=by
 have i:=bBv (m:=m) h h' g
 refine bY rfl func158 bEg rfl ?_
 simp only[f158,N1,bD,bJ,bM,bL,bH,zB,zG]
 simp (disch:=first|rfl|omega)only[S1,zB,reduceCtorEq,zD,zG,zH,TI,vJ 228 rfl,(i _).2]
theorem xY{z w:Int}(h:aX 900000 z.natAbs)(h':aX 900000 w.natAbs)(g:w≠0):CC (VX (m+9)) 158 [tI z,tI w] (tI (z.fdiv w)):= .of (mG z w) (mF z w) (bGL h h' g)
theorem aVB:bQ PG 72 f72 [2] []=true:=by kernel_rfl
theorem aWg{z:Int}(h1: -9223372036854775808<=z)(h2:z<9223372036854775808):VX (m+5) 72 [.int .i64 z]=some (tR (z:Rat),false):=by
 have f1:=aBj (m:=m) (z:=z) h1 h2
 have f2:=aBj (m:=m) (z:=((1:Nat):Int)) (by decide) (by decide)
 refine bY rfl func72 aVB rfl ?_
 simp only[f72,N1,bD,bJ,bM,bL,bH,zB,zG]
 simp (disch:=first|rfl|omega)only[S1,aC,aE,aM,aJ,aD,zB,reduceCtorEq,zD,zG,zH,TQ,vJ 20 rfl,f1 _,f2 _]
 exact oU rfl rfl
theorem bAm:bQ PG 159 f159 [2] []=true:=by kernel_rfl
theorem bCT{q:Rat}(h:FR 9000000 q):VX (m+5) 159 [tR q]=some (.int .i64 (fW q),false):=by
 have hs:=aDD (m:=m) h.1
 refine bY rfl func159 bAm rfl ?_
 simp only[f159,N1,bD,bJ,bM,bL,bH,zB,zG]
 simp (disch:=first|rfl|omega)only[S1,aC,aE,aM,aJ,zB,reduceCtorEq,zD,zG,zH,TQ,aT,vJ 23 rfl,hs _]
 rfl
theorem zX{z:Int}(h1: -9223372036854775808<=z)(h2:z<9223372036854775808):CC (VX (m+5)) 72 [.int .i64 z] (tR (z:Rat)):= .of (Can.cons (cP.int _ _) Can.nil) (by simp only[bW,dA];decide) (aWg h1 h2)
theorem aJg{q:Rat}(h:FR 9000000 q):CC (VX (m+5)) 159 [tR q] (.int .i64 (fW q)):= .of (aC4 q) (aC3 q) (bCT h)
theorem bCK:bQ PG 161 f161 [2] []=true:=by kernel_rfl
theorem bFe{q:Rat}(h:FR 9000000 q):VX (m+4) 161 [tR q]=some (tR (-q),false):=by
 have hs:=aGd (m:=m) h.1
 refine bY rfl func161 bCK rfl ?_
 simp only[f161,N1,bD,bJ,bM,bL,bH,zB,zG]
 simp (disch:=first|rfl|omega)only[S1,aD,zB,reduceCtorEq,zD,zG,zH,TQ,aT,hs _]
 exact oU rfl rfl
theorem aSy{q:Rat}(h:FR 9000000 q):CC (VX (m+4)) 161 [tR q] (tR (-q)):= .of (aC4 q) (aC3 q) (bFe h)
theorem FR.mul1{k:Nat}{a b:Rat}(h:FR k a)(h':FR k b):aX (2*k) (a.num*b.den).natAbs/\aX (2*k) (a.num*b.num).natAbs/\aX (2*k) ((a.den:Int)*b.den).natAbs/\aX (2*k) ((a.den:Int)*b.num).natAbs:=by
 refine⟨?_, ?_, ?_, ?_⟩<;>rw[bJJ]<;>refine aX.mulE (j:=k) (k:=k) ?_ ?_ (by omega)
 ·exact h.1
 ·exact h'.2
 ·exact h.1
 ·exact h'.1
 ·exact h.2
 ·exact h'.2
 ·exact h.2
 ·exact h'.1
theorem bDx:bQ PG 162 f162 [4] []=true:=by kernel_rfl
theorem bFc{a b:Rat}(h:FR 30000 a)(h':FR 30000 b):VX (m+7) 162 [tR a,tR b]=some (.int .i64 (fW (a-b)),false):=by
 have l:=qP (m:=m+2) (z:=a.num) (w:=(b.den:Int)) (h.1.mono (by decide)) (h'.2.mono (by decide))
 have n:=qP (m:=m+2) (z:=b.num) (w:=(a.den:Int)) (h'.1.mono (by decide)) (h.2.mono (by decide))
 have hc:=bHX (m:=m) (z:=a.num*b.den) (w:=b.num*a.den) ((h.mul1 h').1.mono (by decide)) ((h'.mul1 h).1.mono (by decide))
 rw[←aJb]at hc
 refine bY rfl func162 bDx rfl ?_
 simp only[f162,N1,bD,bJ,bM,bL,bH,zB,zG]
 simp (disch:=first|rfl|omega)only[S1,aC,aE,aM,aJ,zB,reduceCtorEq,zD,zG,zH,TQ,aT,l _,n _,hc _]
theorem aSa{a b:Rat}(h:FR 30000 a)(h':FR 30000 b):CC (VX (m+7)) 162 [tR a,tR b] (.int .i64 (fW (a-b))):= .of (pD a b) (rP a b) (bFc h h')
end
section
variable {m:Nat}
theorem aB3{z:Int}:(aO z.natAbs).length=0↔z=0:=by
 rw[bLP,sE];omega
theorem aAV{q:Rat}(h:q.num=0):q=0:=Rat.num_eq_zero.1 h
theorem aJe(z:Int)(n:Nat):z.fdiv (n:Int)=z/(n:Int):=Int.fdiv_eq_ediv_of_nonneg z (by omega)
theorem aIM(k n:Nat):(k:Int).fdiv (n:Int)=((k/n:Nat):Int):=by rw[aJe];exact(Int.natCast_ediv k n).symm
theorem aX.ediv{k:Nat}{z:Int}{n:Nat}(h:aX k z.natAbs):aX k (z/(n:Int)).natAbs:=h.le (Int.natAbs_ediv_le_natAbs z n)
theorem bEr:bQ PG 226 f226 [4,45,30,21] []=true:=by kernel_rfl
theorem bGu{a b:Rat}(h:FR 30000 a)(h':FR 30000 b):VX (m+10) 226 [tR a,tR b]=some (tR (a+b),false):=by
 refine bY rfl func226 bEr rfl ?_
 simp only[f226,N1,bD,bJ,bM,bL,bH,zB,zG]
 simp (disch:=first|rfl|omega)only[S1,aN,aC,aE,aM,aJ,zB,reduceCtorEq,zD,zG,zH,TQ,aT]
 refine cJ (fun e=> ?_) (fun e=> ?_)
 ·have e0:=aAV (aB3.1 (of_decide_eq_true e))
  simp (disch:=first|rfl|omega)only[S1,zB,reduceCtorEq,zD,zG,zH,TQ]
  rw[e0,Rat.zero_add]
 have a0:=of_decide_eq_false e
 simp (disch:=first|rfl|omega)only[S1,aN,aC,aE,aM,aJ,zB,reduceCtorEq,zD,zG,zH,aT]
 refine cJ (fun e=> ?_) (fun e=> ?_)
 ·have e0:=aAV (aB3.1 (of_decide_eq_true e))
  simp (disch:=first|rfl|omega)only[S1,zB,reduceCtorEq,zD,zG,zH,TQ]
  rw[e0,Rat.add_zero]
 have K:=of_decide_eq_false e
 have H:=aDx (m:=m+8) (z:=(a.den:Int))
 have I:=aDx (m:=m+8) (z:=(b.den:Int))
 simp (disch:=first|rfl|omega)only[S1,zB,reduceCtorEq,zD,zG,zH,TQ,aT,vJ 157 rfl,H _]
 have qT:∀q:Rat,decide ((q.den:Int)=1)=true->q.den=1:=fun q h=>by have:=of_decide_eq_true h;omega
 obtain⟨g,f⟩:∃g,g=Nat.gcd a.den b.den:=⟨_,rfl⟩
 have t:0<g:=by rw[f];exact Nat.gcd_pos_of_pos_left _ a.den_pos
 have fg:aX 30000 g:=h.2.le (by rw[f];exact Nat.gcd_le_left _ a.den_pos)
 have kg:=aDT (m:=m+4) (z:=(a.den:Int)) (w:=(b.den:Int)) (h.2.mono (by decide)) (h'.2.mono (by decide))
 rw[show Int.gcd (a.den:Int) (b.den:Int)=g from f.symm]at kg
 have og:=aDx (m:=m+8) (z:=(g:Int))
 refine rR (fun i=> ?A) (fun i=> ?B)
 case' A=>
  simp (disch:=first|rfl|omega)only[S1,aC,aE,aM,aJ,zB,reduceCtorEq,zD,zG,zH,TQ,aT,i,vJ 157 rfl,I _]
  refine cJ (fun u=> ?C) (fun u=> ?D)
 case C=>
  have ea:=aDS (m:=m+5) (z:=a.num) (w:=b.num) (h.1.mono (by decide)) (h'.1.mono (by decide))
  simp (disch:=first|rfl|omega)only[S1,aD,zB,reduceCtorEq,zD,zG,zH,TQ,aT,ea _]
  obtain⟨d,c⟩:=aP6 (qT _ i) (qT _ u)
  exact oU d.symm (by rw[c,qT _ i])
 all_goals
  simp (disch:=first|rfl|omega)only[S1,aC,aE,aM,aJ,zB,reduceCtorEq,zD,zG,zH,TQ,aT,i,vJ 22 rfl,kg _,vJ 157 rfl,og _]
  refine cJ (fun v=> ?_) (fun v=> ?_)
  ·have J:g=1:=by have:=of_decide_eq_true v;omega
   subst J
   obtain⟨d,c⟩:=aN6 a b 1 f (a.num*b.den+b.num*a.den) (by rw[bMq,bMq]) 1 (Nat.gcd_one_right _).symm
   rw[Int.natCast_one,Int.ediv_one]at d
   rw[bMq,bMq]at c
   have l:=qP (m:=m+5) (z:=a.num) (w:=(b.den:Int)) (h.1.mono (by decide)) (h'.2.mono (by decide))
   have o:=qP (m:=m+5) (z:=b.num) (w:=(a.den:Int)) (h'.1.mono (by decide)) (h.2.mono (by decide))
   have p:=qP (m:=m+5) (z:=(a.den:Int)) (w:=(b.den:Int)) (h.2.mono (by decide)) (h'.2.mono (by decide))
   have ea:=aDS (m:=m+5) (z:=a.num*b.den) (w:=b.num*a.den) ((h.mul1 h').1.mono (by decide)) ((h'.mul1 h).1.mono (by decide))
   simp (disch:=first|rfl|omega)only[S1,aD,zB,reduceCtorEq,zD,zG,zH,TQ,aT,l _,o _,p _,ea _]
   exact oU d.symm (by rw[c];exact(bKb _ _).symm)
  ·have r:=xY (m:=m) (z:=(a.den:Int)) (w:=(g:Int)) (h.2.mono (by decide)) (fg.mono (by decide)) (by omega)
   have s:=xY (m:=m) (z:=(b.den:Int)) (w:=(g:Int)) (h'.2.mono (by decide)) (fg.mono (by decide)) (by omega)
   rw[aIM]at r s
   have fx:aX 30000 (a.den/g):=h.2.le (bKc _ _)
   have fy:aX 30000 (b.den/g):=h'.2.le (bKc _ _)
   obtain⟨x,hx⟩:∃x,x=a.den/g:=⟨_,rfl⟩
   obtain⟨y,E⟩:∃y,y=b.den/g:=⟨_,rfl⟩
   obtain⟨n,hn⟩:∃n:Int,n=a.num*(y:Nat)+b.num*(x:Nat):=⟨_,rfl⟩
   obtain⟨k,j⟩:∃k,k=Nat.gcd n.natAbs g:=⟨_,rfl⟩
   obtain⟨d,c⟩:=aN6 a b g f n (by rw[hn,hx,E]) k j
   have L:0<k:=by rw[j];exact bLw _ t
   have fk:aX 30000 k:=fg.le (by rw[j];exact bMr _ t)
   rw[←hx]at r fx c
   rw[←E]at s fy
   have f1:aX 60000 (a.num*(y:Nat)).natAbs:=by rw[bJJ];exact h.1.mulE fy (by decide)
   have f2:aX 60000 (b.num*(x:Nat)).natAbs:=by rw[bJJ];exact h'.1.mulE fx (by decide)
   have fn:aX 60001 n.natAbs:=by rw[hn];exact(f1.add f2).le (Int.natAbs_add_le _ _)
   have l:=qP (m:=m+5) (z:=a.num) (w:=(y:Int)) (h.1.mono (by decide)) (fy.mono (by decide))
   have o:=qP (m:=m+5) (z:=b.num) (w:=(x:Int)) (h'.1.mono (by decide)) (fx.mono (by decide))
   have ea:=aDS (m:=m+5) (z:=a.num*(y:Nat)) (w:=b.num*(x:Nat)) (f1.mono (by decide)) (f2.mono (by decide))
   rw[←hn]at ea
   have kk:=aDT (m:=m+4) (z:=n) (w:=(g:Int)) (fn.mono (by decide)) (fg.mono (by decide))
   rw[show Int.gcd n (g:Int)=k from j.symm]at kk
   have F:=xY (m:=m) (z:=n) (w:=(k:Int)) (fn.mono (by decide)) (fk.mono (by decide)) (by omega)
   have G:=xY (m:=m) (z:=(b.den:Int)) (w:=(k:Int)) (h'.2.mono (by decide)) (fk.mono (by decide)) (by omega)
   rw[aJe]at F
   rw[aIM]at G
   have p:=qP (m:=m+5) (z:=(x:Int)) (w:=((b.den/k:Nat):Int)) (fx.mono (by decide)) ((h'.2.le (bKc _ _)).mono (by decide))
   simp (disch:=first|rfl|omega)only[S1,aD,zB,reduceCtorEq,zD,zG,zH,TQ,aT,r _,s _,F _,G _,l _,o _,p _,ea _,vJ 22 rfl,kk _]
   exact oU d.symm (by rw[c];exact(bKb _ _).symm)
theorem aK5{a b:Rat}(h:FR 30000 a)(h':FR 30000 b):CC (VX (m+10)) 226 [tR a,tR b] (tR (a+b)):= .of (pD a b) (rP a b) (bGu h h')
end
section
variable {m:Nat}
theorem aAo{q:Rat}(h:decide ((q.den:Int)=1)=true):q.den=1:=by have:=of_decide_eq_true h;omega
theorem bDq:bQ PG 71 f71 [4,27,18] []=true:=by kernel_rfl
theorem bGz{a b:Rat}(h:FR 30000 a)(h':FR 30000 b):VX (m+10) 71 [tR a,tR b]=some (tR (a*b),false):=by
 have z0:=zX (m:=m+4) (z:=((0:Nat):Int)) (by decide) (by decide)
 have v:=aDx (m:=m+8) (z:=(a.den:Int))
 have x:=aDx (m:=m+8) (z:=(b.den:Int))
 refine bY rfl func71 bDq rfl ?_
 simp only[f71,N1,bD,bJ,bM,bL,bH,zB,zG]
 cases i:decide ((aO a.num.natAbs).length=0)
 case' false=>cases hB:decide ((aO b.num.natAbs).length=0)
 case true=>
  simp (disch:=first|rfl|omega)only[S1,aN,aC,aE,aM,aJ,zB,reduceCtorEq,zD,zG,zH,TQ,aT,i,vJ 72 rfl,z0 _]
  rw[show a*b=((((0:Nat):Int)):Rat) by rw[aAV (aB3.1 (of_decide_eq_true i)),Rat.zero_mul];rfl]
 case true=>
  simp (disch:=first|rfl|omega)only[S1,aN,aC,aE,aM,aJ,zB,reduceCtorEq,zD,zG,zH,TQ,aT,i,hB,vJ 72 rfl,z0 _]
  rw[show a*b=((((0:Nat):Int)):Rat) by rw[aAV (aB3.1 (of_decide_eq_true hB)),Rat.mul_zero];rfl]
 simp (disch:=first|rfl|omega)only[S1,aN,aC,aE,aM,aJ,zB,reduceCtorEq,zD,zG,zH,TQ,aT,i,hB,vJ 157 rfl,v _]
 obtain⟨g,j⟩:∃g,g=Nat.gcd a.num.natAbs b.den:=⟨_,rfl⟩
 obtain⟨k,l⟩:∃k,k=Nat.gcd b.num.natAbs a.den:=⟨_,rfl⟩
 have G:0<g:=by rw[j];exact bLw _ b.den_pos
 have H:0<k:=by rw[l];exact bLw _ a.den_pos
 have fg:aX 30000 g:=h'.2.le (by rw[j];exact bMr _ b.den_pos)
 have fk:aX 30000 k:=h.2.le (by rw[l];exact bMr _ a.den_pos)
 refine rR (fun f=> ?A) (fun f=> ?B)
 case' A=>
  simp (disch:=first|rfl|omega)only[S1,aC,aE,aM,aJ,zB,reduceCtorEq,zD,zG,zH,TQ,aT,f,vJ 157 rfl,x _]
  refine cJ (fun o=> ?C) (fun o=> ?D)
 case C=>
  have ea:=qP (m:=m+5) (z:=a.num) (w:=b.num) (h.1.mono (by decide)) (h'.1.mono (by decide))
  simp (disch:=first|rfl|omega)only[S1,aD,zB,reduceCtorEq,zD,zG,zH,TQ,aT,ea _]
  obtain⟨c,d⟩:=aP7 (aAo f) (aAo o)
  exact oU c.symm (by rw[d,aAo f])
 all_goals
  have kg:=aDT (m:=m+4) (z:=a.num) (w:=(b.den:Int)) (h.1.mono (by decide)) (h'.2.mono (by decide))
  have kk:=aDT (m:=m+4) (z:=b.num) (w:=(a.den:Int)) (h'.1.mono (by decide)) (h.2.mono (by decide))
  rw[show Int.gcd a.num (b.den:Int)=g from j.symm]at kg
  rw[show Int.gcd b.num (a.den:Int)=k from l.symm]at kk
  have p:=xY (m:=m) (z:=a.num) (w:=(g:Int)) (h.1.mono (by decide)) (fg.mono (by decide)) (by omega)
  have r:=xY (m:=m) (z:=b.num) (w:=(k:Int)) (h'.1.mono (by decide)) (fk.mono (by decide)) (by omega)
  have t:=xY (m:=m) (z:=(a.den:Int)) (w:=(k:Int)) (h.2.mono (by decide)) (fk.mono (by decide)) (by omega)
  have u:=xY (m:=m) (z:=(b.den:Int)) (w:=(g:Int)) (h'.2.mono (by decide)) (fg.mono (by decide)) (by omega)
  rw[aJe]at p r
  rw[aIM]at t u
  have n:=qP (m:=m+5) (z:=a.num/(g:Int)) (w:=b.num/(k:Int)) (h.1.ediv.mono (by decide)) (h'.1.ediv.mono (by decide))
  have y:=qP (m:=m+5) (z:=((a.den/k:Nat):Int)) (w:=((b.den/g:Nat):Int)) ((h.2.le (bKc _ _)).mono (by decide)) ((h'.2.le (bKc _ _)).mono (by decide))
  simp (disch:=first|rfl|omega)only[S1,aC,aE,aM,aJ,aD,zB,reduceCtorEq,zD,zG,zH,TQ,aT,f,kg _,kk _,p _,r _,t _,u _,n _,y _]
  obtain⟨c,d⟩:=aYk a b g k j l
  exact oU c.symm (by rw[d];exact(bKb _ _).symm)
theorem aFP{a b:Rat}(h:FR 30000 a)(h':FR 30000 b):CC (VX (m+10)) 71 [tR a,tR b] (tR (a*b)):= .of (pD a b) (rP a b) (bGz h h')
theorem aMt{a:Rat}(h:a≠0):a⁻¹.num=(if a.num<0 then-(a.den:Int)else a.den)/\(a⁻¹.den:Int)=(if a.num<0 then-a.num else a.num):=by
 have hn:a.num≠0:=fun e=>h (aAV e)
 rw[Rat.num_inv,Rat.den_inv,if_neg hn]
 split
 ·next h1=>rw[bK8 h1];omega
 ·next h1=>rw[bK5 (by omega)];omega
theorem bCy:bQ PG 281 f281 [2] []=true:=by kernel_rfl
theorem bGZ{a:Rat}(h:FR 9000000 a)(h0:a≠0):VX (m+4) 281 [tR a]=some (tR a⁻¹,false):=by
 have n1:=aGd (m:=m) (z:=(a.den:Int)) h.2
 have E:=aGd (m:=m) (z:=a.num) h.1
 obtain⟨c,d⟩:=aMt h0
 refine bY rfl func281 bCy rfl ?_
 simp only[f281,N1,bD,bJ,bM,bL,bH,zB,zG]
 simp (disch:=first|rfl|omega)only[S1,zB,reduceCtorEq,zD,zG,zH,TQ,aT]
 refine cJ (fun e=> ?_) (fun e=> ?_)
 ·simp (disch:=first|rfl|omega)only[S1,aD,zB,reduceCtorEq,zD,zG,zH,TQ,aT,n1 _,E _]
  rw[if_pos (of_decide_eq_true e)]at c d
  exact oU c.symm d.symm
 ·simp (disch:=first|rfl|omega)only[S1,aD,zB,reduceCtorEq,zD,zG,zH,TQ,aT]
  rw[if_neg (of_decide_eq_false e)]at c d
  exact oU c.symm d.symm
theorem bG5{a:Rat}(h:FR 9000000 a)(h0:a≠0):CC (VX (m+4)) 281 [tR a] (tR a⁻¹):= .of (aC4 a) (aC3 a) (bGZ h h0)
theorem FR.inv{k:Nat}{a:Rat}(h:FR k a)(h0:a≠0):FR k a⁻¹:=by
 obtain⟨c,d⟩:=aMt h0
 constructor
 ·rw[c];split
  ·rw[bLg];exact h.2
  ·exact h.2
 ·have:(a⁻¹.den:Int).natAbs=a.num.natAbs:=by rw[d];split<;>simp
  have e:a⁻¹.den=a.num.natAbs:=this
  rw[e];exact h.1
theorem bFL(q:Rat)(e:Int):Can [tR q,.int .i64 e]:=Can.cons (xW q) (Can.cons (cP.int _ _) Can.nil)
theorem aJ6{s:VS}{q:Rat}{e:Int}:dM s [tR q,.int .i64 e]=some (.tp [tR q,.int .i64 e],false):=aBy (bFL q e) (by simp only[bW,dA,uZ];decide)
theorem bDY:bQ PG 224 f224 [5,4] []=true:=by kernel_rfl
theorem bGq{a b:Rat}(h:FR 30000 a)(h':FR 30000 b)(h0:b≠0):VX (m+11) 224 [tR a,tR b]=some (.tp [tR (a/b),.int .i64 ((0:Nat):Int)],false):=by
 have F:=bG5 (m:=m+6) (h'.mono (k:=9000000) (by decide)) h0
 have n:=aFP (m:=m) h (h'.inv h0)
 rw[←Rat.div_def]at n
 have hn:b.num≠0:=fun e=>h0 (aAV e)
 refine bY rfl func224 bDY rfl ?_
 simp only[f224,N1,bD,bJ,bM,bL,bH,zB,zG]
 simp (disch:=first|rfl|omega)only[S1,aN,aC,aE,aM,aJ,zB,reduceCtorEq,zD,zG,zH,TQ,aT]
 refine cJ (fun e=>absurd (aB3.1 (of_decide_eq_true e)) hn) (fun e=> ?_)
 simp (disch:=first|rfl|omega)only[S1,aC,aE,aM,aJ,zB,reduceCtorEq,zD,zG,zH,TQ,F _,n _,aJ6]
theorem bF6{a b:Rat}(h:FR 30000 a)(h':FR 30000 b)(h0:b≠0):CC (VX (m+11)) 224 [tR a,tR b] (.tp [tR (a/b),.int .i64 ((0:Nat):Int)]):= .of (pD a b) (rP a b) (bGq h h' h0)
end
end Go.Proofs.YtmjoaipkaddkbaaGreatDoor.Ev
namespace Go.Proofs.YtmjoaipkaddkbaaGreatDoor
section
def co(l:List Rat)(j:Nat):Rat:=l.getD j 0
theorem tB(j:Nat):co [] j=0:=by simp [co]
theorem aD6(a:Rat)(l:List Rat)(j:Nat):co (a::l) (j+1)=co l j:=rfl
theorem gZ{l:List Rat}{j:Nat}(h:l.length<=j):co l j=0:=by simp [co,h]
theorem vV{l:List Rat}{j:Nat}(h:j<l.length):co l j=l[j]:=by simp [co,h]
theorem aG2{l:List Rat}{j:Nat}(h:j<l.length):co l j∈l:=by rw[vV h];exact bL8 h
def tr:List Rat->List Rat
 | []=>[]
 |a::l=>if tr l=[]then(if a=0 then []else [a])else a::tr l
theorem fF:∀(l:List Rat) (j:Nat),co (tr l) j=co l j
 | [],_=>rfl
 | a::l,j=>by
  unfold tr
  split
  ·next h=>
   have ih:=fF l
   rw[h]at ih
   cases j with
   |zero=>
    split
    ·next h0=>rw[h0];rfl
    ·rfl
   |succ j=>
    rw[aD6,←ih j,tB]
    split
    ·exact tB _
    ·rw[aD6,tB]
  ·cases j with
   |zero=>rfl
   |succ j=>rw[aD6,aD6,fF l j]
theorem fK:∀l:List Rat,(tr l).length<=l.length
 | []=>bIK _
 |a::l=>by
  have ih:=fK l
  unfold tr
  split
  ·split<;>simp
  ·simp only[bIV];omega
theorem mC:∀(l:List Rat),tr l≠ []->co (tr l) ((tr l).length-1)≠0
 | [],h=>absurd rfl h
 | a::l,h=>by
  unfold tr at h ⊢
  split at h
  ·next h1=>
   rw[if_pos h1]
   split at h
   ·exact absurd rfl h
   ·next h2=>rw[if_neg h2];exact h2
  ·next h1=>
   rw[if_neg h1]
   have ih:=mC l h1
   have I:0<(tr l).length:=by
    rcases bKF (tr l).length with h0|h0
    ·exact absurd (bJA h0) h1
    ·exact h0
   rw[bIV,bJw,show(tr l).length=(tr l).length-1+1 by omega,aD6]
   exact ih
theorem vF{l m:List Rat}(I:l≠ []->co l (l.length-1)≠0)(z:m≠ []->co m (m.length-1)≠0)(h:∀j,co l j=co m j):l=m:=by
 have key:∀ {l m:List Rat},(m≠ []->co m (m.length-1)≠0)->(∀j,co l j=co m j)->m.length<=l.length:=fun {l m} z h=>by
  rcases bIT l.length m.length with g|hge
  ·have o:m≠ []:=fun e=>by rw[e]at g;simp at g
   have:=z o
   rw[←h,gZ (by omega)]at this
   exact absurd rfl this
  ·exact hge
 have e:l.length=m.length:=Nat.le_antisymm (key I fun j=>(h j).symm) (key z h)
 refine List.ext_getElem e fun j h1 h2=> ?_
 have:=h j
 rwa [vV h1,vV h2]at this
def NF(l:List Rat):Prop:=l≠ []->co l (l.length-1)≠0
theorem NF.tr(l:List Rat):NF (tr l):=mC l
theorem aAr{l m:List Rat}(h:∀j,co l j=co m j):tr l=tr m:=vF (mC l) (mC m) fun j=>by rw[fF,fF];exact h j
theorem NF.eq{l:List Rat}(h:NF l):Go.Proofs.YtmjoaipkaddkbaaGreatDoor.tr l=l:=vF (mC l) h fun j=>fF l j
theorem aGb(l:List Rat):tr (tr l)=tr l:=(NF.tr l).eq
theorem uQ{l:List Rat}{n:Nat}(h:∀j,n<=j->co l j=0):(tr l).length<=n:=by
 rcases bIT n (tr l).length with g|hge
 ·have o:tr l≠ []:=fun e=>by rw[e]at g;simp at g
  have:=mC l o
  rw[fF,h _ (by omega)]at this
  exact absurd rfl this
 ·exact hge
theorem aJz{l:List Rat}{j:Nat}(h:co l j≠0):j<(tr l).length:=by
 rcases bIT j (tr l).length with g|hge
 ·exact g
 ·exact absurd (by rw[←fF,gZ hge]) h
theorem xU:∀ {l:List Rat} {q:Rat},q∈tr l->q∈l
 | [],q,h=>by cases h
 | a::l,q,h=>by
  unfold tr at h
  split at h
  ·split at h
   ·cases h
   ·simp only[bJ4,List.not_mem_nil,or_false]at h;rw[h];exact .head _
  ·rcases bJ4.1 h with rfl|h
   ·exact .head _
   ·exact .tail _ (xU h)
def mk(n:Nat)(f:Nat->Rat):List Rat:=(List.range n).map f
theorem iR(n:Nat)(f:Nat->Rat):(mk n f).length=n:=by simp [mk]
theorem aCe{n:Nat}{f:Nat->Rat}(j:Nat):co (mk n f) j=if j<n then f j else 0:=by
 split
 ·next h=>rw[vV (by rw[iR];exact h)];simp [mk]
 ·next h=>exact gZ (by rw[iR];omega)
theorem tD{n:Nat}{f:Nat->Rat}{q:Rat}(h:q∈mk n f):∃j,j<n/\q=f j:=by
 simp only[mk,List.mem_map,List.mem_range]at h
 obtain⟨j,h1,h2⟩:=h
 exact⟨j,h1,h2.symm⟩
def oH(r b:List Rat)(n:Nat)(c:Rat):List Rat:=mk (max r.length (b.length+n)) fun j=>co r j-c*(if n<=j then co b (j-n)else 0)
theorem aDh(r b:List Rat)(n:Nat)(c:Rat)(j:Nat):co (oH r b n c) j=co r j-c*(if n<=j then co b (j-n)else 0):=by
 unfold oH
 rw[aCe]
 split
 ·rfl
 ·next h=>
  rw[gZ (by omega)]
  split
  ·rw[gZ (by omega)];grind
  ·grind
def vP(q:List Rat)(n:Nat)(c:Rat):List Rat:=mk (max q.length (n+1)) fun j=>if j=n then co q j+c else co q j
theorem aAc(q:List Rat)(n:Nat)(c:Rat)(j:Nat):co (vP q n c) j=if j=n then co q j+c else co q j:=by
 unfold vP
 rw[aCe]
 split
 ·rfl
 ·next h=>rw[if_neg (by omega),gZ (by omega)]
def mV(b:List Rat):Nat->List Rat->List Rat->List Rat×List Rat
 |0,q,r=>(q,r)
 |f+1,q,r=>if r.length<b.length then(q,r)else mV b f (tr (vP q (r.length-b.length) (co r (r.length-1)/co b (b.length-1)))) (tr (oH r b (r.length-b.length) (co r (r.length-1)/co b (b.length-1))))
def yN(a b:List Rat):List Rat×List Rat:=mV (tr b) ((tr a).length+1) [] (tr a)
def pI(a b:List Rat):List Rat:=(yN a b).1
def fG(a b:List Rat):List Rat:=(yN a b).2
theorem aCK{r b:List Rat}(s:NF b)(d:b≠ [])(h:b.length<=r.length):(tr (oH r b (r.length-b.length) (co r (r.length-1)/co b (b.length-1)))).length<r.length:=by
 have N:0<b.length:=bJK.2 d
 have h1:(tr (oH r b (r.length-b.length) (co r (r.length-1)/co b (b.length-1)))).length<=r.length-1:=uQ fun j hj=>by
  rw[aDh]
  by_cases e:j=r.length-1
  ·rw[e,if_pos (by omega),show r.length-1-(r.length-b.length)=b.length-1 by omega]
   have:=s d
   rw[Rat.div_mul_cancel this]
   grind
  ·rw[gZ (l:=r) (j:=j) (by omega)]
   split
   ·rw[gZ (l:=b) (j:=j-(r.length-b.length)) (by omega)];grind
   ·grind
 omega
theorem aPC{b:List Rat}(s:NF b)(d:b≠ []):∀(f:Nat) (q r:List Rat),r.length<f->NF r->(mV b f q r).2.length<b.length/\NF (mV b f q r).2
 |0,_,_,h,_=>by omega
 | f+1,q,r,h1,A=>by
  simp only[mV]
  split
  ·next h=>exact⟨h,A⟩
  ·next h=>
   have i:=aCK s d (bMm.1 h)
   exact aPC s d f _ _ (by omega) (NF.tr _)
theorem aJa(l:List Rat)(n j:Nat):co (l.take n) j=if j<n then co l j else 0:=by
 unfold co
 simp only[bJb,bK1]
 split<;>rfl
theorem aLc{l:List Rat}{n:Nat}(h:co l n=0):tr (l.take (n+1))=tr (l.take n):=aAr fun j=>by
 rw[aJa,aJa]
 by_cases h1:j<n
 ·rw[if_pos h1,if_pos (by omega)]
 ·rw[if_neg h1]
  by_cases h2:j=n
  ·rw[h2,if_pos (by omega),h]
  ·rw[if_neg (by omega)]
theorem aLD{l:List Rat}{n:Nat}(hn:n<l.length)(h:co l n≠0):tr (l.take (n+1))=l.take (n+1):=NF.eq fun _=>by
 rw[bIW,bJc (by omega),bJw,aJa,if_pos (by omega)]
 exact h
theorem aFf{q:Rat}:fW q=0↔q=0:=by unfold fW;rw[Int.sign_eq_zero_iff_zero,Rat.num_eq_zero]
theorem aBF(n:Nat)(f:Nat->Rat):mk (n+1) f=mk n f++[f n]:=by simp [mk,List.range_succ]
theorem bFN(l m:List Rat)(j:Nat):co (l++m) j=if j<l.length then co l j else co m (j-l.length):=by
 unfold co
 simp only[bJb,List.getElem?_append]
 split<;>rfl
theorem aFQ(n j:Nat):co (bIQ n 0) j=0:=by
 unfold co
 simp only[bJb,List.getElem?_replicate]
 split<;>rfl
def WD(k:Nat)(l:List Rat):Prop:=∃D:Nat,0<D/\D<2^k/\∀q∈l,∃n:Int,q*(D:Rat)=(n:Rat)/\n.natAbs<2^k
theorem WD.mono{j k:Nat}{l:List Rat}(h:WD j l)(t:j<=k):WD k l:=by
 obtain⟨D,h1,h2,i⟩:=h
 have W:2^j<=2^k:=bJ9 (by decide) t
 exact⟨D,h1,by omega,fun q hq=>let ⟨n,w,J⟩:=i q hq;⟨n,w,by omega⟩⟩
theorem WD.sub{k:Nat}{l m:List Rat}(h:WD k l)(hs:∀q∈m,q∈l):WD k m:=let ⟨D,h1,h2,i⟩:=h;⟨D,h1,h2,fun q hq=>i q (hs q hq)⟩
theorem WD.tr{k:Nat}{l:List Rat}(h:WD k l):WD k (tr l):=h.sub fun _ hq=>xU hq
theorem WD.co{k:Nat}{l:List Rat}(h:WD k l):∃D:Nat,0<D/\D<2^k/\∀j,∃n:Int,co l j*(D:Rat)=(n:Rat)/\n.natAbs<2^k:=by
 obtain⟨D,h1,h2,i⟩:=h
 refine⟨D,h1,h2,fun j=> ?_⟩
 rcases bIT j l.length with hj|hj
 ·exact i _ (aG2 hj)
 ·refine⟨0, ?_,by simp;exact bLy _⟩
  rw[gZ hj];simp
theorem aEs{q:Rat}{D:Nat}{n:Int}(K:0<D)(h:q*(D:Rat)=(n:Rat)):q.den<=D/\q.num.natAbs<=n.natAbs:=by
 have e:q.num*D=n*q.den:=by
  have h1:mkRat (q.num*D) (q.den*1)=mkRat n 1:=by
   rw[←Rat.mkRat_self (n:Rat)]at h
   rw[Rat.mul_def']at h
   exact h
  have h2:=(Rat.mkRat_eq_iff (by rw[bJn];exact q.den_nz) (by decide)).1 h1
  simpa using h2
 have en:q.num.natAbs*D=n.natAbs*q.den:=by
  have:=congrArg Int.natAbs e
  rwa [bJJ,bJJ]at this
 have B:q.den∣D:=by
  have:q.den∣q.num.natAbs*D:=⟨n.natAbs,by rw[en,bIX]⟩
  exact bMo.dvd_of_dvd_mul_left q.reduced.symm this
 obtain⟨k,t⟩:=B
 have C:0<k:=by
  rcases bKF k with h0|h0
  ·rw[h0]at t;omega
  ·exact h0
 refine⟨bLi K ⟨k,t⟩, ?_⟩
 have:n.natAbs=q.num.natAbs*k:=by
  have i:n.natAbs*q.den=q.num.natAbs*k*q.den:=by rw[←en,t];rw[bIX q.den k,bJ5]
  exact Nat.eq_of_mul_eq_mul_right q.den_pos i
 rw[this]
 exact bLh _ C
theorem WD.parts{k:Nat}{l:List Rat}(h:WD k l){q:Rat}(hq:q∈l):q.den<2^k/\q.num.natAbs<2^k:=by
 obtain⟨D,h1,h2,i⟩:=h
 obtain⟨n,w,J⟩:=i q hq
 obtain⟨p1,p2⟩:=aEs h1 w
 omega
theorem WD.step{k m:Nat}{r b:List Rat}(A:WD k r)(s:WD m b)(d:Go.Proofs.YtmjoaipkaddkbaaGreatDoor.co b (b.length-1)≠0)(n:Nat):WD (k+m+1) (oH r b n (Go.Proofs.YtmjoaipkaddkbaaGreatDoor.co r (r.length-1)/Go.Proofs.YtmjoaipkaddkbaaGreatDoor.co b (b.length-1))):=by
 obtain⟨D,d1,d2,d3⟩:=A.co
 obtain⟨E,w,J,L⟩:=s.co
 obtain⟨x,O,P⟩:=d3 (r.length-1)
 obtain⟨y,F,M⟩:=L (b.length-1)
 generalize Go.Proofs.YtmjoaipkaddkbaaGreatDoor.co r (r.length-1)=X at*
 generalize Go.Proofs.YtmjoaipkaddkbaaGreatDoor.co b (b.length-1)=Y at*
 have Q:(E:Rat)≠0:=by rw[ne_eq,Rat.natCast_eq_zero_iff];omega
 have K:(D:Rat)≠0:=by rw[ne_eq,Rat.natCast_eq_zero_iff];omega
 have p:y≠0:=fun h=>by
  rw[h]at F
  rcases Rat.mul_eq_zero.1 (F.trans rfl)with h|h
  ·exact d h
  ·exact Q h
 have hY:(y:Rat)≠0:=by rw[ne_eq,Rat.intCast_eq_zero_iff];exact p
 have pw:2^(k+m)=2^k*2^m:=bK7 _ _ _
 have pw1:2^(k+m+1)=2^(k+m)*2:=bJ1 _ _
 have G:0<y.natAbs:=by omega
 refine⟨D*y.natAbs,bJH d1 G, ?_,fun q hq=> ?_⟩
 ·have:=bKL d2 M
  omega
 ·obtain⟨j,_,rfl⟩:=tD hq
  obtain⟨u,R,S⟩:=d3 j
  obtain⟨v,T,v2⟩:∃v:Int,(if n<=j then Go.Proofs.YtmjoaipkaddkbaaGreatDoor.co b (j-n)else 0)*(E:Rat)=(v:Rat)/\v.natAbs<2^m:=by
   split
   ·exact L _
   ·exact⟨0,by simp,by simp;exact bLy _⟩
  generalize Go.Proofs.YtmjoaipkaddkbaaGreatDoor.co r j=U at*
  generalize (if n<=j then Go.Proofs.YtmjoaipkaddkbaaGreatDoor.co b (j-n)else(0:Rat))=V at*
  refine⟨y.sign*(u*y-x*v), ?_, ?_⟩
  ·have hs:((y.natAbs:Nat):Rat)=((y.sign*y:Int):Rat):=by
    rw[←Rat.intCast_natCast,Rat.intCast_inj]
    rcases bMs p with hn|hn
    ·rw[bK8 hn];omega
    ·rw[bK5 hn];omega
   rw[Rat.natCast_mul,hs]
   simp only[Rat.intCast_mul,Rat.intCast_sub]
   rw[←R,←O,←T,←F]
   have H:X/Y*Y=X:=Rat.div_mul_cancel d
   generalize X/Y=Z at*
   subst H
   grind
  ·rw[bJJ]
   have h1:y.sign.natAbs=1:=Int.natAbs_sign_of_ne_zero p
   rw[h1,bKQ]
   have a1:(u*y).natAbs<2^(k+m):=by rw[bJJ,pw];exact bKL S M
   have a2:(x*v).natAbs<2^(k+m):=by rw[bJJ,pw];exact bKL P v2
   omega
theorem aBw(q:Rat):q*(q.den:Rat)=(q.num:Rat):=by
 have h1:q*(q.den:Rat)=mkRat (q.num*q.den) (q.den*1):=Rat.mul_def' q (q.den:Rat)
 rw[h1,←Rat.mkRat_self (q.num:Rat)]
 refine(Rat.mkRat_eq_iff (by rw[bJn];exact q.den_nz) (Rat.den_nz _)).2 ?_
 show q.num*q.den*((1:Nat):Int)=q.num*((q.den*1:Nat):Int)
 simp
theorem aMC(a b:Rat):(a+b).den<=a.den*b.den/\(a+b).num.natAbs<=a.num.natAbs*b.den+b.num.natAbs*a.den:=by
 have h:=aEs (q:=a+b) (D:=a.den*b.den) (n:=a.num*b.den+b.num*a.den) (bJH a.den_pos b.den_pos) (by
  have h1:=aBw a
  have h2:=aBw b
  simp only[Rat.natCast_mul,Rat.intCast_add,Rat.intCast_mul,Rat.intCast_natCast,←h1,←h2]
  grind)
 refine⟨h.1,bIO h.2 (bIO (Int.natAbs_add_le _ _) ?_)⟩
 rw[bJJ,bJJ]
 exact bIK _
theorem aWY(a b:Rat):(a*b).den<=a.den*b.den/\(a*b).num.natAbs<=a.num.natAbs*b.num.natAbs:=by
 have h:=aEs (q:=a*b) (D:=a.den*b.den) (n:=a.num*b.num) (bJH a.den_pos b.den_pos) (by
  have h1:=aBw a
  have h2:=aBw b
  simp only[Rat.natCast_mul,Rat.intCast_mul,←h1,←h2]
  grind)
 exact⟨h.1,by rw[←bJJ];exact h.2⟩
end
section
def aAR(l l':List Rat):List Rat:=tr (mk (max l.length l'.length) fun j=>co l j+co l' j)
def aCr(l l':List Rat):List Rat:=tr (mk (max l.length l'.length) fun j=>co l j-co l' j)
def eI(l:List Rat)(c:Rat):List Rat:=tr (mk l.length fun j=>co l j*c)
def jZ(l:List Rat)(n:Nat):List Rat:=tr (bIQ n 0++l)
theorem aJv(l l':List Rat)(j:Nat):co (aAR l l') j=co l j+co l' j:=by
 rw[aAR,fF,aCe]
 split
 ·rfl
 ·rw[gZ (l:=l) (by omega),gZ (l:=l') (by omega),Rat.add_zero]
theorem aQR(l l':List Rat)(j:Nat):co (aCr l l') j=co l j-co l' j:=by
 rw[aCr,fF,aCe]
 split
 ·rfl
 ·rw[gZ (l:=l) (by omega),gZ (l:=l') (by omega),Rat.sub_self]
theorem rJ(l:List Rat)(c:Rat)(j:Nat):co (eI l c) j=co l j*c:=by
 rw[eI,fF,aCe]
 split
 ·rfl
 ·rw[gZ (l:=l) (by omega),Rat.zero_mul]
theorem aI0(l:List Rat)(n j:Nat):co (jZ l n) j=if n<=j then co l (j-n)else 0:=by
 rw[jZ,fF]
 rw[bFN,bJz,aFQ]
 by_cases h:j<n
 ·rw[if_pos h,if_neg (by omega)]
 ·rw[if_neg h,if_pos (by omega)]
def pX(a b:List Rat):Nat->List Rat
 |0=>[]
 |k+1=>aAR (pX a b k) (jZ (eI a (co b k)) k)
theorem NF.padd(l l':List Rat):NF (aAR l l'):= .tr _
theorem NF.nil:NF []:=fun h=>absurd rfl h
theorem aEU{l:List Rat}(h:NF l){n:Nat}(w:∀j,n<=j->co l j=0):l.length<=n:=by rw[←h.eq];exact uQ w
theorem aAt{l:List Rat}{q:Rat}(h:q∈l):∃j,j<l.length/\q=co l j:=by
 obtain⟨j,i,e⟩:=List.mem_iff_getElem.1 h
 exact⟨j,i,by rw[vV i,e]⟩
theorem bET(c:Rat)(j:Nat):co [c] j=if j=0 then c else 0:=by
 cases j with
 |zero=>rfl
 |succ j=>rfl
theorem aD2(c:Rat)(n j:Nat):co (jZ [c] n) j=if j=n then c else 0:=by
 rw[aI0,bET]
 by_cases h:j=n
 ·rw[if_pos (by omega),if_pos (by omega),if_pos h]
 ·rw[if_neg h]
  split
  ·rw[if_neg (by omega)]
  ·rfl
theorem NF.pms(a b:List Rat):∀k,NF (pX a b k)
 |0=> .nil
 |_+1=> .padd _ _
theorem aFZ(b:List Rat)(c:Rat)(n j:Nat):∀k,co (pX (jZ [c] n) b k) j=if n<=j/\j-n<k then c*co b (j-n)else 0
 |0=>by rw[if_neg (by omega)];exact tB j
 | k+1=>by
  simp only[pX]
  rw[aJv,aFZ b c n j k,aI0,rJ,aD2]
  by_cases h:n<=j/\j-n<k
  ·rw[if_pos h,if_pos (show n<=j/\j-n<k+1 by omega)]
   by_cases o:k<=j
   ·rw[if_pos o,if_neg (by omega),Rat.zero_mul,Rat.add_zero]
   ·rw[if_neg o,Rat.add_zero]
  ·rw[if_neg h,Rat.zero_add]
   by_cases s:n<=j/\j-n=k
   ·rw[if_pos (show k<=j by omega),if_pos (show j-k=n by omega),if_pos (show n<=j/\j-n<k+1 by omega),s.2]
   ·rw[if_neg (show ¬(n<=j/\j-n<k+1) by omega)]
    by_cases o:k<=j
    ·rw[if_pos o,if_neg (by omega),Rat.zero_mul]
    ·rw[if_neg o]
theorem bEm(b:List Rat)(c:Rat)(n k:Nat):(pX (jZ [c] n) b k).length<=n+k:=aEU (NF.pms _ _ _) fun j i=>by rw[aFZ,if_neg (by omega)]
theorem aY9(r b:List Rat)(c:Rat)(n:Nat):aCr r (pX (jZ [c] n) b b.length)=tr (oH r b n c):=vF (mC _) (mC _) fun j=>by
 rw[aQR,fF,aDh,aFZ]
 congr 1
 by_cases h1:n<=j
 ·by_cases h2:j-n<b.length
  ·rw[if_pos ⟨h1,h2⟩,if_pos h1]
  ·rw[if_neg (fun h=>h2 h.2),if_pos h1,gZ (l:=b) (by omega),Rat.mul_zero]
 ·rw[if_neg (fun h=>h1 h.1),if_neg h1,Rat.mul_zero]
theorem aWC(q:List Rat)(c:Rat)(n:Nat):aAR q (jZ [c] n)=tr (vP q n c):=vF (mC _) (mC _) fun j=>by
 rw[aJv,fF,aAc,aD2]
 split
 ·rfl
 ·rw[Rat.add_zero]
theorem aRx{b:List Rat}{kb:Nat}(m:WD kb b)(hn:NF b)(d:b≠ []):∀(f k:Nat) (q r:List Rat),r.length<f->WD k r->WD (k+(r.length+1-b.length)*(kb+1)) (mV b f q r).2
 |0,_,_,_,h,_=>by omega
 | f+1,k,q,r,h,u=>by
  simp only[mV]
  split
  ·exact u.mono (Nat.le_add_right _ _)
  ·next h1=>
   have h2:=aCK hn d (bMm.1 h1)
   have s:=(u.step m (hn d) (r.length-b.length)).tr
   refine(aRx m hn d f (k+kb+1) _ _ (by omega) s).mono ?_
   have o:=bJ8 (kb+1) (show(tr (oH r b (r.length-b.length) (co r (r.length-1)/co b (b.length-1)))).length+1-b.length<=r.length-b.length by omega)
   have R:(r.length+1-b.length)*(kb+1)=(r.length-b.length)*(kb+1)+(kb+1):=by
    rw[show r.length+1-b.length=r.length-b.length+1 by omega,bJT]
   omega
theorem bEo{a b:List Rat}{ka kb:Nat}(z:WD ka a)(m:WD kb b)(d:tr b≠ []):WD (ka+((tr a).length+1-(tr b).length)*(kb+1)) (fG a b):=aRx m.tr (.tr b) d _ _ _ _ (bIZ _) z.tr
theorem aBf{a b:List Rat}(d:tr b≠ []):(fG a b).length<(tr b).length/\NF (fG a b):=aPC (.tr b) d _ _ _ (bIZ _) (.tr a)
theorem aQq:∀(f:Nat) (q r:List Rat),NF r->NF q->r.length<f->(∀j,j<r.length->co q j=0)->NF (mV [1] f q r).1/\∀j,co (mV [1] f q r).1 j=co q j+co r j
 |0,_,_,_,_,h,_=>by omega
 | f+1,q,r,u,hq,h,w=>by
  simp only[mV]
  split
  ·next h1=>
   have:r=[]:=bJA (by simpa using h1)
   subst this
   exact⟨hq,fun j=>by rw[tB,Rat.add_zero]⟩
  ·next h1=>
   have t:1<=r.length:=bMm.1 h1
   have n1:NF [1]:=fun _=>by show(1:Rat)≠0;decide
   have h2:=aCK n1 (by simp) (show [(1:Rat)].length<=r.length from t)
   have hc:co r (r.length-1)/co [(1:Rat)] ([(1:Rat)].length-1)=co r (r.length-1):=by
    show co r (r.length-1)/1=_
    have:=Rat.div_mul_cancel (a:=co r (r.length-1)) (b:=1) (by decide)
    rwa [Rat.mul_one]at this
   rw[hc]at h2 ⊢
   have I:r.length- [(1:Rat)].length=r.length-1:=rfl
   rw[I]at h2 ⊢
   obtain⟨g1,g2⟩:=aQq f (tr (vP q (r.length-1) (co r (r.length-1)))) (tr (oH r [1] (r.length-1) (co r (r.length-1)))) (.tr _) (.tr _) (by omega) fun j i=>by
    rw[fF,aAc,if_neg (by omega)]
    exact w j (by omega)
   refine⟨g1,fun j=> ?_⟩
   rw[g2,fF,fF,aAc,aDh]
   by_cases e:j=r.length-1
   ·subst e
    rw[if_pos rfl,if_pos (bIK _),Nat.sub_self,w _ (by omega)]
    show 0+co r (r.length-1)+(co r (r.length-1)-co r (r.length-1)*1)=_
    grind
   ·rw[if_neg e]
    split
    ·rw[gZ (l:=[1]) (j:=j-(r.length-1)) (by simp;omega)];grind
    ·grind
theorem aIc(a:List Rat):pI a [1]=tr a:=by
 have h1:tr [1]=[1]:=NF.eq fun _=>by show(1:Rat)≠0;decide
 unfold pI yN
 rw[h1]
 obtain⟨g1,g2⟩:=aQq ((tr a).length+1) [] (tr a) (.tr a) .nil (bIZ _) fun j _=>tB j
 exact vF g1 (mC a) fun j=>by rw[g2,tB,Rat.zero_add]
def gQ(a:List Rat):Rat:=co (tr a) ((tr a).length-1)
def bK(a:List Rat):List Rat:=eI (tr a) (1/gQ a)
theorem sU{a:List Rat}(h:tr a≠ []):gQ a≠0:=mC a h
theorem NF.pmonic(a:List Rat):NF (bK a):= .tr _
theorem aBg(a:List Rat)(j:Nat):co (bK a) j=co a j*(1/gQ a):=by rw[YtmjoaipkaddkbaaGreatDoor.bK,rJ,fF]
theorem aJJ{x:Rat}(h:x≠0):1/x≠0:=by
 intro e
 have h1:=Rat.div_mul_cancel (a:=1) h
 rw[e,Rat.zero_mul]at h1
 exact absurd h1 (by decide)
theorem kU(a:List Rat):(bK a).length=(tr a).length:=by
 by_cases h:tr a=[]
 ·have e:bK a=[]:=by unfold YtmjoaipkaddkbaaGreatDoor.bK eI;rw[h];rfl
  rw[e,h]
 ·have G:0<(tr a).length:=bJK.2 h
  have h1:(bK a).length<=(tr a).length:=aEU (NF.pmonic a) fun j i=>by rw[aBg,←fF,gZ i,Rat.zero_mul]
  have h2:(tr a).length-1<(bK a).length:=by
   rw[←(NF.pmonic a).eq]
   refine aJz ?_
   rw[aBg,←fF]
   intro e
   rcases Rat.mul_eq_zero.1 e with e|e
   ·exact mC a h e
   ·exact aJJ (sU h) e
  omega
theorem WD.monic{k:Nat}{l:List Rat}(h:WD k l):WD k (bK l):=by
 by_cases h0:YtmjoaipkaddkbaaGreatDoor.tr l=[]
 ·have e:bK l=[]:=by unfold bK eI;rw[h0];rfl
  rw[e];exact h.sub fun _ h=>by cases h
 ·obtain⟨D,d1,d2,d3⟩:=h.co
  obtain⟨y,A,T⟩:=d3 ((YtmjoaipkaddkbaaGreatDoor.tr l).length-1)
  have t:=sU h0
  have B:YtmjoaipkaddkbaaGreatDoor.co l ((YtmjoaipkaddkbaaGreatDoor.tr l).length-1)=gQ l:=(fF _ _).symm
  rw[B]at A
  have J:(D:Rat)≠0:=by rw[ne_eq,Rat.natCast_eq_zero_iff];omega
  have v:y≠0:=fun h=>by
   rw[h]at A
   rcases Rat.mul_eq_zero.1 (A.trans rfl)with h|h
   ·exact t h
   ·exact J h
  refine⟨y.natAbs,by omega,by omega,fun q hq=> ?_⟩
  obtain⟨j,_,rfl⟩:=aAt hq
  obtain⟨x,C,H⟩:=d3 j
  refine⟨x*y.sign, ?_,by rw[bJJ,Int.natAbs_sign_of_ne_zero v];omega⟩
  have hs:((y.natAbs:Nat):Rat)=(y:Rat)*(y.sign:Rat):=by
   rw[←Rat.intCast_natCast,←Rat.intCast_mul,Rat.intCast_inj]
   rcases bMs v with hn|hn
   ·rw[bK8 hn];omega
   ·rw[bK5 hn];omega
  rw[hs,←A,aBg,Rat.intCast_mul,←C]
  have hc:=Rat.div_mul_cancel (a:=1) t
  generalize 1/gQ l=Z at*
  generalize gQ l=Y at*
  generalize (y.sign:Rat)=S
  generalize YtmjoaipkaddkbaaGreatDoor.co l j=X at*
  grind
def dU(a:List Rat):List Rat:=tr (mk (a.length-1) fun j=>co a (j+1)*(((j+1:Nat):Int):Rat))
theorem aDm(a:List Rat)(j:Nat):co (dU a) j=co a (j+1)*(((j+1:Nat):Int):Rat):=by
 rw[dU,fF,aCe]
 split
 ·rfl
 ·rw[gZ (l:=a) (by omega),Rat.zero_mul]
theorem WD.der{k:Nat}{l:List Rat}(h:WD k l)(t:l.length<=1000):WD (k+10) (dU l):=by
 obtain⟨D,d1,d2,d3⟩:=h.co
 have G:=bK7 2 k 10
 refine⟨D,d1,by omega,fun q hq=> ?_⟩
 obtain⟨j,i,rfl⟩:=tD (xU hq)
 obtain⟨x,C,H⟩:=d3 (j+1)
 refine⟨x*((j+1:Nat):Int), ?_, ?_⟩
 ·rw[Rat.intCast_mul,←C];grind
 ·rw[bJJ,G]
  exact bKL H (by show(((j+1:Nat):Int)).natAbs<1024;omega)
theorem aBq(a:List Rat):(dU a).length<=a.length-1:=bIO (fK _) (by rw[iR];exact bIK _)
theorem NF.pder(a:List Rat):NF (dU a):= .tr _
def pV:Nat->List Rat->List Rat->List Rat
 |0,a,_=>a
 |f+1,a,b=>if b=[]then a else pV f b (bK (fG a b))
def fY(a b:List Rat):List Rat:=pV ((bK b).length+1) (bK a) (bK b)
theorem bIb(g:Nat)(h:1<=g):g+2<=3^g:=by
 induction g with
 |zero=>omega
 | succ g ih=>
  rcases bKF g with h0|h0
  ·subst h0;decide
  ·have:=ih h0
   rw[bJ1];omega
theorem aBG{a b:List Rat}{K N:Nat}(z:WD (K*3^(N-a.length)-1) a)(m:WD (K*3^(N-a.length)-1) b)(na:NF a)(nb:NF b)(d:b≠ [])(L:b.length<a.length)(U:a.length<=N)(M:1<=K):WD (K*3^(N-b.length)-1) (fG a b)/\WD (K*3^(N-b.length)-1) b/\K*3^(N-a.length)-1+(a.length-b.length)*(K*3^(N-a.length)-1+1)<=K*3^(N-1):=by
 have O:0<b.length:=bJK.2 d
 obtain⟨X,E⟩:∃X,X=K*3^(N-a.length):=⟨_,rfl⟩
 have P:1<=X:=by rw[E];exact bJH M (bJx (by decide))
 rw[←E]at z m ⊢
 obtain⟨g,F⟩:∃g,g=a.length-b.length:=⟨_,rfl⟩
 have B:N-b.length=(N-a.length)+g:=by omega
 have Q:K*3^(N-b.length)=X*3^g:=by rw[B,bK7,←bJ5,←E]
 have s:=bJ7 X (bIb g (by omega))
 have o:K*3^(N-b.length)<=K*3^(N-1):=bJ7 K (bJ9 (by decide) (by omega))
 rw[show X-1+1=X by omega,←F]
 have V:X*(g+2)=g*X+2*X:=by rw[bJ6,bIX X g,bIX X 2]
 refine⟨?_,m.mono (by omega),by omega⟩
 have u:=bEo z m (by rw[nb.eq];exact d)
 rw[na.eq,nb.eq,show X-1+1=X by omega,show a.length+1-b.length=g+1 by omega]at u
 refine u.mono ?_
 have W:(g+1)*X=g*X+X:=bJT _ _
 omega
def rZ(a:List Rat):List Rat:=bK (pI (bK a) (fY (bK a) (dU (bK a))))
theorem aLe(a:List Rat){c:Rat}(hc:c≠0):bK (eI a c)=bK a:=vF (NF.pmonic _) (NF.pmonic _) fun j=>by
 have t:gQ (eI a c)=gQ a*c:=by
  unfold gQ
  have h1:∀l:List Rat,(tr (eI l c)).length<=(tr l).length:=fun l=>uQ fun j i=>by rw[rJ,←fF,gZ i,Rat.zero_mul]
  have h2:(tr a).length<=(tr (eI a c)).length:=uQ fun j i=>by
   have s:co (eI a c) j=0:=by rw[←fF,gZ i]
   rw[rJ]at s
   exact(Rat.mul_eq_zero.1 s).resolve_right hc
  rw[Nat.le_antisymm (h1 a) h2,fF,fF,rJ]
 rw[aBg,aBg,rJ,t]
 by_cases h0:gQ a=0
 ·have:tr a=[]:=Classical.byContradiction fun h=>sU h h0
  rw[←fF,this,tB];grind
 ·have B:=Rat.div_mul_cancel (a:=1) h0
  have Q:=Rat.div_mul_cancel (a:=1) (b:=gQ a*c) (fun e=>(Rat.mul_eq_zero.1 e).elim h0 hc)
  generalize 1/(gQ a*c)=Z at*
  generalize 1/gQ a=Y at*
  generalize gQ a=X at*
  grind
theorem aVX(a:List Rat)(c:Rat):dU (eI a c)=eI (dU a) c:=vF (NF.pder _) (mC _) fun j=>by
 rw[aDm,rJ,rJ,aDm];grind
theorem bBY(a:List Rat):dU (tr a)=dU a:=vF (NF.pder _) (NF.pder _) fun j=>by rw[aDm,aDm,fF]
theorem aXi(a:List Rat):bK (tr a)=bK a:=by unfold bK gQ;rw[aGb]
theorem aEo(a:List Rat):bK (bK a)=bK a:=by
 by_cases h:tr a=[]
 ·have e:bK a=[]:=by unfold bK eI;rw[h];rfl
  rw[e];rfl
 ·have e:bK a=eI (tr a) (1/gQ a):=rfl
  rw[e,aLe _ (aJJ (sU h)),aXi,←e]
theorem aHz(a:List Rat)(h:tr a≠ []):fY (bK a) (dU (bK a))=fY a (dU a):=by
 have e:bK (dU (bK a))=bK (dU a):=by
  rw[show bK a=eI (tr a) (1/gQ a)from rfl,aVX,aLe _ (aJJ (sU h)),bBY]
 unfold fY
 rw[aEo,e]
theorem aIF{a:List Rat}(h:tr a≠ [])(F:fY a (dU a)=[1]):rZ a=bK a:=by
 unfold rZ
 rw[aHz a h,F,aIc,(NF.pmonic a).eq,aEo]
def pZ:Nat->List Rat->List Rat->List (List Rat)
 |0,_,_=>[]
 |f+1,p,q=>if q=[]then []else q::pZ f q (eI (fG p q) ((-1:Int):Rat))
def iS(a:List Rat):List (List Rat):=if (tr a).length<=1 then []else rZ a::pZ ((dU (rZ a)).length+1) (rZ a) (dU (rZ a))
end
end Go.Proofs.YtmjoaipkaddkbaaGreatDoor
namespace Go.Proofs.YtmjoaipkaddkbaaGreatDoor.Ev
section
variable {m:Nat}
def bP:EC Rat:=⟨cR,4,by decide,fun _=>rfl,aG7,fun _=>by simp only[cR,iI,List.all_cons,List.all_nil,aGm,aFS,bJv],9,fun _=>by simp only[cR,bW,dA,fJ];omega⟩
def tP(l:List Rat):TV:=bP.t l
theorem aSc{l:List Rat}:jU PG 35 (tP l)=some (.int .i64 (l.length:Nat)):=aG0 eR sR
theorem lD{l:List Rat}{j:Nat}(h:j<l.length):mE PG 35 (tP l) j=some (.pi (bP.row l) (j*4)):=aF2 (E:=bP) eR kR sR h
theorem kX{l:List Rat}{j:Nat}{s:VS}(h:j<l.length):kD PG 78 s (.pi (bP.row l) (j*4))=some (tR (co l j)):=by
 have e:=bP.all h
 simp only[kD,pU,aR,if_true,sR]
 rw[show(4:Nat)=bP.sz from rfl,e]
 rfl
theorem aNY{l:List Rat}(h:0<l.length){s:VS}:kD PG 78 s (.pi (bP.row l) 0)=some (tR (co l 0)):=kX (j:=0) h
theorem aNV{r:bB}{l:List Rat}{lo A:Option bQd}:iX PG 35 r (tP l) lo A none=(eM r 0 lo).bind fun a=>(eM r l.length A).bind fun b=>if a<=b/\b<=l.length then some (tP ((l.drop a).take (b-a)))else none:=bBe (E:=bP) eR kR sR
theorem sY(l:List Rat):cP (tP l):=bP.t_can l
theorem uY(l:List Rat):dA (tP l)=1:=bP.t_siz l
theorem aJR{l:List Rat}:(tP l).one=true:=bP.t_one
theorem aO6{l:List Rat}:(tP l).cells=[tP l]:=bP.t_cells
theorem aSM{s:VS}{l:List Rat}:dM s [tP l]=some (tP l,false):=sO (sY l) (by rw[uY];decide)
theorem iG(l:List Rat):Can [tP l]:=Can.cons (sY l) Can.nil
theorem vD(l l':List Rat):Can [tP l,tP l']:=Can.cons (sY l) (Can.cons (sY l') Can.nil)
theorem aJF(l:List Rat)(q:Rat):Can [tP l,tR q]:=Can.cons (sY l) (Can.cons (xW q) Can.nil)
theorem iZ(l:List Rat):bW [tP l]<=cK:=by simp only[bW,uY];decide
theorem vA(l l':List Rat):bW [tP l,tP l']<=cK:=by simp only[bW,uY];decide
theorem aJO(l:List Rat)(q:Rat):bW [tP l,tR q]<=cK:=by simp only[bW,uY,uZ];decide
theorem aJ5{s:VS}{k len:Nat}{l:List Rat}(i:k<s.nxt)(o:s.ob k=⟨0,bP.row l⟩)(g:len=l.length)(hs:l.length<=10000):(dM s [.ow k 0 len 4]).map (nQ true)=some (tP l,false):=aPw (E:=bP) i o g rfl (bIO (Nat.add_le_add_right (bJ8 9 hs) 1) (by decide))
theorem aRt{s:VS}{k len:Nat}{l l2:List Rat}(i:k<s.nxt)(o:s.ob k=⟨0,bP.row l⟩)(g:len=l.length)(h2:l2≠ [])(n1:l.length<=10000000)(p:l2.length<=10000000):gT PG 78 s (.ow k 0 len 4) (tP l2)=some (.ow s.nxt 0 (len+l2.length) 4,(s.set k ⟨2,[]⟩).new (bP.row (l++l2))):=aBW (E:=bP) wQ sR aEW i o g rfl h2 n1 p
theorem aKy(q:Rat):bP.row [q]=cR q:=bK3 _
theorem aB4{x:List TV}:(bIQ 0 x).flatten=[]:=rfl
theorem aFw{et:fO}{k:bQc}{z:Int}:bX et .eql (.int k z) (.int k ((0:Nat):Int))=some (.b (decide (z=0))):=by simp only[bX,dY,if_true];rfl
theorem aKz{j:Nat}:decide (j<0)=false:=decide_eq_false (bJQ j)
theorem aCj{x:List TV}:(bIQ 1 x).flatten=x:=bK3 x
theorem fL.stepR{d s:VS}{v:TV}{l:List Rat}(h:fL bP d s v l)(q:Rat)(n1:l.length<=10000000):∃v' s',gT PG 78 (s.new [.b (decide (q.num<0)),tW (aO q.num.natAbs),.b (decide ((q.den:Int)<0)),tW (aO (q.den:Int).natAbs)]) v (.ow s.nxt 0 1 4)=some (v',s')/\fL bP d s' v' (l++[q]):=h.step q wQ sR n1
theorem fL.appP{d s:VS}{v:TV}{l:List Rat}(h:fL bP d s v l)(l2:List Rat)(n1:l.length<=10000000)(p:l2.length<=10000000):∃v' s',gT PG 78 s v (tP l2)=some (v',s')/\fL bP d s' v' (l++l2):=h.app l2 wQ sR n1 p
theorem aY:type_of%(And.intro @aKz (And.intro @aB4 (And.intro @aCj (And.intro @aFw (And.intro @aA8 (And.intro @aFE (And.intro @aDy (And.intro @aBo (And.intro @aBx (And.intro @aBV (And.intro @aSc (And.intro @aNV (And.intro @aJR (And.intro @aO6 (And.intro @aSM (And.intro @aT6 (And.intro @aRC (@aOT)))))))))))))))))):=(And.intro @aKz (And.intro @aB4 (And.intro @aCj (And.intro @aFw (And.intro @aA8 (And.intro @aFE (And.intro @aDy (And.intro @aBo (And.intro @aBx (And.intro @aBV (And.intro @aSc (And.intro @aNV (And.intro @aJR (And.intro @aO6 (And.intro @aSM (And.intro @aT6 (And.intro @aRC (@aOT))))))))))))))))))
def PS(k:Nat)(l:List Rat):Prop:=l.length<=1000/\∀q∈l,FR k q
theorem PS.co{k:Nat}{l:List Rat}(h:PS k l){j:Nat}(B:j<l.length):FR k (co l j):=h.2 _ (aG2 B)
theorem aZu:bQ PG 73 f73 [2,16] []=true:=by kernel_rfl
theorem aDf{l:List Rat}(h:PS 9000000 l):VX (m+6) 73 [tP l]=some (tP (tr l),false):=by
 refine jP rfl func73 aZu rfl ?_
 simp only[f73,N1,bD,bJ,bM,bL,bH,zB,zG]
 simp (disch:=first|rfl|omega)only[S1,aN,aC,aE,aM,aJ,zB,aY]
 refine .loop (fun n e s=>s=eA/\n<=l.length/\e 0=some (tP l)/\e 3=some (.int .i64 (n:Nat))/\tr (l.take n)=tr l) l.length ⟨rfl,bIK _, ?_, ?_,by simp⟩ (dC (bJe h.1 (by decide))) ?_
 ·simp (disch:=first|rfl|omega)only[S1,zB]
 ·simp (disch:=first|rfl|omega)only[S1,zB]
 ·rintro n e s ⟨rfl,hn,e0,f,u⟩
  simp (disch:=first|rfl|omega)only[S1,aC,aE,aM,aJ,zB,f]
  refine rR (fun h1=> ?_) (fun h1=> ?_)
  ·have g:=h.1
   obtain⟨n,rfl⟩:∃j,n=j+1:=⟨n-1,by have:=of_decide_eq_true h1;omega⟩
   have sg:=aJg (m:=m) (h.co (j:=n) (by omega))
   simp (disch:=first|rfl|omega)only[S1,aC,aE,aM,aJ,zB,aY,e0,f,h1,bJw,lD,kX,vJ 159 rfl,sg _]
   refine cJ (fun h2=> ?_) (fun h2=> ?_)
   ·have w:=aFf.1 (of_decide_eq_true h2)
    simp (disch:=first|rfl|omega)only[S1,aC,aE,aM,aJ,zB,e0,f,bJw]
    exact⟨n,by omega,by omega,rfl,by rw[←u,aLc w]⟩
   ·have w:co l n≠0:=fun e=>of_decide_eq_false h2 (aFf.2 e)
    have c:(l.take (n+1)).length=n+1:=by rw[bIW];omega
    simp (disch:=first|rfl|omega)only[S1,aK,aD,zB,aY,e0,f,Nat.sub_zero,bIR]
    rw[aRt (l:=[]) (len:=0) (by decide) rfl rfl (fun e=>by rw[e]at c;cases c) (by decide) (by omega)]
    simp (disch:=first|rfl|omega)only[S1,zB,reduceCtorEq]
    rw[aJ5 (l:=l.take (n+1)) (len:=(l.take (n+1)).length) (k:=1) (show 1<2 by decide) rfl rfl (by omega),←u,aLD (by omega) w]
  ·have y:n=0:=by have:=of_decide_eq_false h1;omega
   subst y
   simp (disch:=first|rfl|omega)only[S1,aK,aC,aE,aM,aJ,aD,zB,zF,zG,zH,aY,e0,f]
   rw[aQ3 wQ rfl]
   simp (disch:=first|rfl|omega)only[S1,zB,reduceCtorEq]
   rw[aJ5 (l:=[]) (len:=0) (k:=0) (show 0<1 by decide) rfl rfl (by decide),←u]
   rfl
theorem aFH{l:List Rat}(h:PS 9000000 l):CC (VX (m+6)) 73 [tP l] (tP (tr l)):= .of (iG l) (iZ l) (aDf h)
end
section
variable {m:Nat}
theorem bBA:bQ PG 225 f225 [0] []=true:=by kernel_rfl
theorem bDE:VX (m+6) 225 []=some (tR 0,false):=by
 have z0:=zX (m:=m) (z:=((0:Nat):Int)) (by decide) (by decide)
 refine bY rfl func225 bBA rfl ?_
 simp only[f225,N1,bD,bJ,bM,bL,bH,zB,zG]
 simp (disch:=first|rfl|omega)only[S1,aC,aE,aM,aJ,zB,reduceCtorEq,zD,zG,zH,aY,vJ 72 rfl,z0 _]
 rfl
theorem aFB:CC (VX (m+6)) 225 [] (tR 0):= .of Can.nil (by simp only[bW];decide) bDE
theorem bF4:bQ PG 227 f227 [4] []=true:=by kernel_rfl
theorem aSN(l:List Rat)(z:Int):Can [tP l,.int .i64 z]:=Can.cons (sY l) (Can.cons (cP.int _ _) Can.nil)
theorem aRB(l:List Rat)(z:Int):bW [tP l,.int .i64 z]<=cK:=by simp only[bW,uY,dA];decide
theorem bHO{l:List Rat}{j:Nat}(_h:l.length<=1000)(_hj:j<=1000):VX (m+7) 227 [tP l,.int .i64 (j:Nat)]=some (tR (co l j),false):=by
 have z0:=aFB (m:=m)
 refine bY rfl func227 bF4 rfl ?_
 simp only[f227,N1,bD,bJ,bM,bL,bH,zB,zG]
 simp (disch:=first|rfl|omega)only[S1,aN,aC,aE,aM,aJ,zB,zD,aY]
 refine cJ (fun h1=> ?_) (fun h1=> ?_)
 ·have:=of_decide_eq_true h1
  simp (disch:=first|rfl|omega)only[S1,zB,reduceCtorEq,zD,zG,zH,aY,vJ 225 rfl,z0 _]
  rw[gZ (by omega)]
 ·have:=of_decide_eq_false h1
  simp (disch:=first|rfl|omega)only[S1,zB,reduceCtorEq,zD,zG,zH,aY,lD,kX]
theorem aTf{l:List Rat}{j:Nat}(h:l.length<=1000)(hj:j<=1000):CC (VX (m+7)) 227 [tP l,.int .i64 (j:Nat)] (tR (co l j)):= .of (aSN l j) (aRB l j) (bHO h hj)
theorem FR.zero{k:Nat}(h:1<=k):FR k 0:=⟨aX.le (aX.one h) (by decide),aX.one h⟩
theorem zQ{k:Nat}{l:List Rat}(h:PS k l)(r:1<=k)(j:Nat):FR k (co l j):=by
 rcases bIT j l.length with hj|hj
 ·exact h.co hj
 ·rw[gZ hj];exact .zero r
theorem FR.add{j k:Nat}{a b:Rat}(h:FR j a)(h':FR j b)(e:2*j+1<=k):FR k (a+b):=by
 obtain⟨h1,h2⟩:=aMC a b
 exact⟨aX.le' (j:=2*j+1) (aX.add (aX.mulE (l:=2*j) h.1 h'.2 (by omega)) (aX.mulE (l:=2*j) h'.1 h.2 (by omega))) h2 e,aX.le' (j:=2*j) (aX.mulE h.2 h'.2 (by omega)) h1 (by omega)⟩
theorem FR.mul{j k:Nat}{a b:Rat}(h:FR j a)(h':FR j b)(e:2*j<=k):FR k (a*b):=by
 obtain⟨h1,h2⟩:=aWY a b
 exact⟨aX.le' (j:=2*j) (aX.mulE h.1 h'.1 (by omega)) h2 e,aX.le' (j:=2*j) (aX.mulE h.2 h'.2 (by omega)) h1 e⟩
theorem bD8:bQ PG 154 f154 [4,16] []=true:=by kernel_rfl
theorem bFH{l l':List Rat}(h:PS 30000 l)(h':PS 30000 l'):VX (m+11) 154 [tP l,tP l']=some (tP (tr (mk (max l.length l'.length) fun j=>co l j+co l' j)),false):=by
 refine jP rfl func154 bD8 rfl ?_
 simp only[f154,N1,bD,bJ,bM,bL,bH,zB,zG]
 simp (disch:=first|rfl|omega)only[S1,aC,aE,aM,aJ,zB,zD]
 have t:=h.1
 have g:=h'.1
 refine .up (fun k e s=>∃v,e 0=some (tP l)/\e 1=some (tP l')/\e 5=some v/\e 6=some (.int .i64 (k:Nat))/\gD bP s v (mk k fun j=>co l j+co l' j)) (max l.length l'.length) ?_ (dC (by omega)) ?_
 ·refine⟨.nil, ?_, ?_, ?_, ?_,.nil _⟩
  ·simp (disch:=first|rfl|omega)only[S1,zB]
  ·simp (disch:=first|rfl|omega)only[S1,zB]
  ·simp (disch:=first|rfl|omega)only[S1,zB]
  ·simp (disch:=first|rfl|omega)only[S1,zB]
 ·rintro k e s r ⟨v,e0,i,n,o,p⟩
  by_cases hc:k<max l.length l'.length
  ·have c1:=aTf (m:=m+3) (l:=l) (j:=k) t (by omega)
   have c2:=aTf (m:=m+3) (l:=l') (j:=k) g (by omega)
   have c3:=aK5 (m:=m) (a:=co l k) (b:=co l' k) (zQ h (by decide) k) (zQ h' (by decide) k)
   obtain⟨v',s',ea,d, -⟩:=p.step (co l k+co l' k) wQ sR (by rw[iR];omega)
   have ea:=(show gT PG 78 (s.new [.b (decide ((co l k+co l' k).num<0)),tW (aO (co l k+co l' k).num.natAbs),.b (decide (((co l k+co l' k).den:Int)<0)),tW (aO ((co l k+co l' k).den:Int).natAbs)]) v (.ow s.nxt 0 1 4)=some (v',s')from ea)
   have c:decide (k<l.length)=true\/decide (k<l.length)=false/\decide (k<l'.length)=true:=by
    by_cases h1:k<l.length
    ·exact .inl (decide_eq_true h1)
    ·exact .inr ⟨decide_eq_false h1,decide_eq_true (by omega)⟩
   rcases c with h1|⟨h1,h2⟩
   ·simp (disch:=first|rfl|omega)only[S1,aK,aN,aC,aE,aM,aJ,aD,zB,zD,zE,zH,aY,e0,i,n,o,h1,vJ 227 rfl,c1 _,c2 _,vJ 226 rfl,c3 _,ea]
    exact⟨hc,v',rfl,by rw[aBF];exact d⟩
   ·simp (disch:=first|rfl|omega)only[S1,aK,aN,aC,aE,aM,aJ,aD,zB,zD,zE,zH,aY,e0,i,n,o,h1,h2,vJ 227 rfl,c1 _,c2 _,vJ 226 rfl,c3 _,ea]
    exact⟨hc,v',rfl,by rw[aBF];exact d⟩
  ·have h1:decide (k<l.length)=false:=decide_eq_false (by omega)
   have h2:decide (k<l'.length)=false:=decide_eq_false (by omega)
   have ek:k=max l.length l'.length:=by omega
   rw[ek]at p
   have u:PS 9000000 (mk (max l.length l'.length) fun j=>co l j+co l' j):=⟨by rw[iR];omega,fun q hq=>by
    obtain⟨j,_,rfl⟩:=tD hq
    exact FR.add (zQ h (by decide) j) (zQ h' (by decide) j) (by decide)⟩
   obtain⟨s1,y,w,x, -, -⟩:=p.call (f:=73) Can.nil (by decide) (by rw[iR];show _*9<=_;omega) (aDf (m:=m+4) u)
   simp (disch:=first|rfl|omega)only[S1,aN,aC,aE,aM,aJ,zB,reduceCtorEq,aY,e0,i,n,o,h1,h2,vJ 73 rfl,x]
theorem aJZ{l l':List Rat}(h:PS 30000 l)(h':PS 30000 l'):CC (VX (m+11)) 154 [tP l,tP l'] (tP (tr (mk (max l.length l'.length) fun j=>co l j+co l' j))):= .of (vD l l') (vA l l') (bFH h h')
end
section
variable {m:Nat}
theorem aYB:bQ PG 151 f151 [4] []=true:=by kernel_rfl
theorem aZV{l:List Rat}{c:Rat}(h:PS 30000 l)(h':FR 30000 c):VX (m+11) 151 [tP l,tR c]=some (tP (eI l c),false):=by
 refine jP rfl func151 aYB rfl ?_
 simp only[f151,N1,bD,bJ,bM,bL,bH,zB,zG]
 simp (disch:=first|rfl|omega)only[S1,aC,aE,aM,aJ,zB,zD,aY]
 have B:=h.1
 obtain⟨o,g⟩:∃o,o=eA.new [.b (decide (c.num<0)),tW (aO c.num.natAbs),.b (decide ((c.den:Int)<0)),tW (aO (c.den:Int).natAbs)]:=⟨_,rfl⟩
 have C:o.ob 0=⟨0,[.b (decide (c.num<0)),tW (aO c.num.natAbs),.b (decide ((c.den:Int)<0)),tW (aO (c.den:Int).natAbs)]⟩:=by rw[g];rfl
 have F:o.nxt=1:=by rw[g];rfl
 rw[←g]
 refine .up (fun k e s=>∃v,e 0=some (tP l)/\e 3=some (.po 0 0)/\e 5=some v/\e 6=some (.int .i64 (k:Nat))/\fL bP o s v (mk k fun j=>co l j*c)) l.length ?_ (dC (by omega)) ?_
 ·refine⟨.nil, ?_, ?_, ?_, ?_,.nil _⟩<;>simp (disch:=first|rfl|omega)only[S1,zB]
 ·rintro k e s t ⟨v,e0,y,p,r,i⟩
  have sb:=(i.ob 0 (by omega)).trans C
  have sn:0<s.nxt:=by have:=i.nx;omega
  by_cases hc:k<l.length
  ·have h1:decide (k<l.length)=true:=decide_eq_true hc
   have c3:=aFP (m:=m) (a:=co l k) (b:=c) (h.co hc) h'
   obtain⟨v',s',ea,d⟩:=i.stepR (co l k*c) (by rw[iR];omega)
   simp (disch:=first|rfl|omega)only[S1,aK,aN,aC,aE,aM,aJ,aD,zB,reduceCtorEq,zD,zE,zH,aY,e0,y,p,r,h1,sb,sn,lD,kX,c3 _,ea]
   exact⟨hc,v',rfl,by rw[aBF];exact d⟩
  ·have h1:decide (k<l.length)=false:=decide_eq_false hc
   obtain rfl:k=l.length:=by omega
   have D:PS 9000000 (mk l.length fun j=>co l j*c):=⟨by rw[iR];omega,fun q hq=>by
    obtain⟨j,u,rfl⟩:=tD hq
    exact(h.co u).mul h' (by decide)⟩
   obtain⟨s1,E,w,x, -, -⟩:=i.bld.call (f:=73) Can.nil (by decide) (by rw[iR];show _*9<=_;omega) (aDf (m:=m+4) D)
   simp (disch:=first|rfl|omega)only[S1,aN,zB,reduceCtorEq,aY,e0,p,r,h1,vJ 73 rfl,x]
   rfl
theorem aF9{l:List Rat}{c:Rat}(h:PS 30000 l)(h':FR 30000 c):CC (VX (m+11)) 151 [tP l,tR c] (tP (eI l c)):= .of (aJF l c) (aJO l c) (aZV h h')
theorem aJk(l l':List Rat):tr (mk (max l.length l'.length) fun j=>co l j+co l' j)=aAR l l':=rfl
theorem FR.neg1:FR 30000 (((-1:Int):Int):Rat):=⟨aX.le (aX.one (by decide)) (by decide),aX.le (aX.one (by decide)) (by decide)⟩
theorem bAa(l l':List Rat):aAR l (eI l' ((-1:Int):Rat))=aCr l l':=vF (mC _) (mC _) fun j=>by
 rw[aJv,aQR,rJ]
 have:((-1:Int):Rat)= -1:=rfl
 rw[this]
 grind
theorem aEA(l:List Rat)(c:Rat):(eI l c).length<=l.length:=bIO (fK _) (by rw[iR];exact bIK _)
theorem PS.neg{k:Nat}{l:List Rat}(h:PS k l):PS k (eI l ((-1:Int):Rat)):=⟨bIO (aEA _ _) h.1,fun q hq=>by
 obtain⟨j,u,rfl⟩:=tD (xU hq)
 have e:YtmjoaipkaddkbaaGreatDoor.co l j*((-1:Int):Rat)= -YtmjoaipkaddkbaaGreatDoor.co l j:=by
  have:((-1:Int):Rat)= -1:=rfl
  rw[this];grind
 rw[e]
 have:=h.co u
 exact⟨by rw[show(-YtmjoaipkaddkbaaGreatDoor.co l j).num= -(YtmjoaipkaddkbaaGreatDoor.co l j).num from rfl,bLg];exact this.1,this.2⟩⟩
theorem bE3:bQ PG 155 f155 [4] []=true:=by kernel_rfl
theorem bGk{l l':List Rat}(h:PS 30000 l)(h':PS 30000 l'):VX (m+12) 155 [tP l,tP l']=some (tP (aCr l l'),false):=by
 have f1:=zX (m:=m+6) (z:= -1) (by decide) (by decide)
 have f2:=aF9 (m:=m) h' FR.neg1
 have f3:=aJZ (m:=m) h h'.neg
 rw[aJk,bAa]at f3
 refine jP rfl func155 bE3 rfl ?_
 simp only[f155,N1,bD,bJ,bM,bL,bH,zB,zG]
 simp (disch:=first|rfl|omega)only[S1,aC,aE,aM,aJ,zB,reduceCtorEq,zD,aY,vJ 72 rfl,f1 _,vJ 151 rfl,f2 _,vJ 154 rfl,f3 _]
theorem bGG{l l':List Rat}(h:PS 30000 l)(h':PS 30000 l'):CC (VX (m+12)) 155 [tP l,tP l'] (tP (aCr l l')):= .of (vD l l') (vA l l') (bGk h h')
theorem aWb:bQ PG 231 f231 [2] []=true:=by kernel_rfl
theorem aYI{l:List Rat}(h:PS 9000000 l):VX (m+7) 231 [tP l]=some (.int .i64 (iz (tr l).length),false):=by
 have f1:=aFH (m:=m) h
 have B:=bIO (fK l) h.1
 refine bY rfl func231 aWb rfl ?_
 simp only[f231,N1,bD,bJ,bM,bL,bH,zB,zG]
 simp (disch:=first|rfl|omega)only[S1,aN,aC,aE,aM,aJ,zB,reduceCtorEq,aY,vJ 73 rfl,f1 _]
theorem aYz{l:List Rat}(h:PS 9000000 l):CC (VX (m+7)) 231 [tP l] (.int .i64 (iz (tr l).length)):= .of (iG l) (iZ l) (aYI h)
theorem PS.shift{k n:Nat}{l:List Rat}(h:PS k l)(t:1<=k)(hn:n+l.length<=1000):PS k (bIQ n 0++l):=⟨by rw[bJ3,bJz];exact hn,fun q hq=>by
 rcases List.mem_append.1 hq with hq|hq
 ·rw[(List.mem_replicate.1 hq).2];exact .zero t
 ·exact h.2 q hq⟩
theorem aX9:bQ PG 153 f153 [4] []=true:=by kernel_rfl
theorem aOP{l:List Rat}{n:Nat}(h:PS 9000000 l)(hn:n+l.length<=1000):VX (m+7) 153 [tP l,.int .i64 (n:Nat)]=some (tP (jZ l n),false):=by
 refine jP rfl func153 aX9 rfl ?_
 simp only[f153,N1,bD,bJ,bM,bL,bH,zB,zG]
 simp (disch:=first|rfl|omega)only[S1,aC,aE,aM,aJ,zB,zD]
 have c3:=aFB (m:=m)
 refine .up (fun k e s=>∃v,e 0=some (tP l)/\e 1=some (.int .i64 (n:Nat))/\e 5=some v/\e 6=some (.int .i64 (k:Nat))/\fL bP eA s v (bIQ k 0)) n ?_ (dC (by omega)) ?_
 ·refine⟨.nil, ?_, ?_, ?_, ?_,.nil _⟩<;>simp (disch:=first|rfl|omega)only[S1,zB]
 ·rintro k e s t ⟨v,e0,A,p,r,i⟩
  by_cases hc:k<n
  ·have h1:decide (k<n)=true:=decide_eq_true hc
   obtain⟨v',s',ea,d⟩:=i.stepR 0 (by rw[bJz];omega)
   simp (disch:=first|rfl|omega)only[S1,aK,aC,aE,aM,aJ,aD,zB,zD,zE,zH,aY,e0,A,p,r,h1,vJ 225 rfl,c3 _,ea]
   exact⟨hc,v',rfl,by rw[List.replicate_succ'];exact d⟩
  ·have h1:decide (k<n)=false:=decide_eq_false hc
   obtain rfl:k=n:=by omega
   obtain⟨v',s',ea,d⟩:=i.appP l (by rw[bJz];omega) (by omega)
   obtain⟨s1,E,w,x, -, -⟩:=d.bld.call (f:=73) Can.nil (by decide) (by rw[bJ3,bJz];show _*9<=_;omega) (aDf (m:=m) (h.shift (by decide) hn))
   simp (disch:=first|rfl|omega)only[S1,aK,zB,reduceCtorEq,aY,e0,A,p,r,h1,ea,vJ 73 rfl,x]
   rfl
theorem aZh{l:List Rat}{n:Nat}(h:PS 9000000 l)(hn:n+l.length<=1000):CC (VX (m+7)) 153 [tP l,.int .i64 (n:Nat)] (tP (jZ l n)):= .of (aSN l n) (aRB l n) (aOP h hn)
end
section
variable {m:Nat}
theorem aLs{orc:cN}{f:FuncId}{ts:List TV}{s:VS}:dD orc f (.nil::ts) s=dD orc f (tP []::ts) s:=by
 unfold dD
 show((cX 99999999 s ts).map _).bind _=((cX 99999999 s ts).map _).bind _
 cases cX 99999999 s ts<;>rfl
theorem aLn{orc:cN}{f:FuncId}{ts:List TV}{s:VS}:fD orc f (.nil::ts) s=fD orc f (tP []::ts) s:=by
 unfold fD
 show((cX 99999999 s ts).map _).bind _=((cX 99999999 s ts).map _).bind _
 cases cX 99999999 s ts<;>rfl
theorem bE4:bQ PG 156 f156 [4] []=true:=by kernel_rfl
theorem bGP{a b:List Rat}(d:PS 30000 a)(g:PS 30000 b)(r:a.length+b.length<=1000)(o:∀k,k<=b.length->PS 30000 (pX a b k))(p:∀k,k<b.length->PS 30000 (jZ (eI a (co b k)) k)):VX (m+12) 156 [tP a,tP b]=some (tP (pX a b b.length),false):=by
 refine jP rfl func156 bE4 rfl ?_
 simp only[f156,N1,bD,bJ,bM,bL,bH,zB,zG]
 simp (disch:=first|rfl|omega)only[S1,aC,aE,aM,aJ,zB,zD]
 refine .up (fun k e s=>∃v,s=eA/\e 0=some (tP a)/\e 1=some (tP b)/\e 5=some v/\e 6=some (.int .i64 (k:Nat))/\(v=tP (pX a b k)\/v= .nil/\k=0)) b.length ?_ (dC (by omega)) ?_
 ·refine⟨.nil,rfl, ?_, ?_, ?_, ?_,.inr ⟨rfl,rfl⟩⟩<;>simp (disch:=first|rfl|omega)only[S1,zB]
 ·rintro k e s x ⟨v,rfl,e0,h,i,l,t⟩
  by_cases hc:k<b.length
  ·have h1:decide (k<b.length)=true:=decide_eq_true hc
   have c1:=aF9 (m:=m) (c:=co b k) d (g.co hc)
   have u:PS 9000000 (eI a (co b k)):=⟨bIO (aEA _ _) d.1,fun q hq=>by
    obtain⟨j,w,rfl⟩:=tD (xU hq)
    exact(d.co w).mul (g.co hc) (by decide)⟩
   have c2:=aZh (m:=m+4) (n:=k) u (by have:=aEA a (co b k);omega)
   have c3:=aJZ (m:=m) (o k (by omega)) (p k hc)
   rw[aJk]at c3
   rcases t with rfl|⟨rfl,rfl⟩
   ·simp (disch:=first|rfl|omega)only[S1,aN,aC,aE,aM,aJ,zB,reduceCtorEq,aY,e0,h,i,l,h1,lD,kX,vJ 151 rfl,c1 _,vJ 153 rfl,c2 _,vJ 154 rfl,c3 _]
    exact⟨hc,_,rfl,.inl rfl⟩
   ·have c0:CC (VX (m+11)) 154 [tP [],tP (jZ (eI a (co b 0)) 0)] (tP (pX a b 1)):=c3
    simp (disch:=first|rfl|omega)only[S1,aN,aC,aE,aM,aJ,zB,reduceCtorEq,zE,aY,e0,h,i,l,h1,lD,vJ 151 rfl,c1 _,vJ 153 rfl,c2 _,vJ 154 rfl,aNY hc,aLn,c0 _]
    exact⟨hc,_,rfl,.inl rfl⟩
  ·have h1:decide (k<b.length)=false:=decide_eq_false hc
   obtain rfl:k=b.length:=by omega
   rcases t with rfl|⟨rfl,h0⟩
   ·simp (disch:=first|rfl|omega)only[S1,aN,zB,reduceCtorEq,aY,h,i,l,h1]
   ·simp (disch:=first|rfl|omega)only[S1,aN,zB,reduceCtorEq,aY,h,i,l,h1]
    rw[h0];rfl
theorem bFJ{a b:List Rat}(d:PS 30000 a)(g:PS 30000 b)(r:a.length+b.length<=1000)(o:∀k,k<=b.length->PS 30000 (pX a b k))(p:∀k,k<b.length->PS 30000 (jZ (eI a (co b k)) k)):CC (VX (m+12)) 156 [tP a,tP b] (tP (pX a b b.length)):= .of (vD a b) (vA a b) (bGP d g r o p)
end
section
variable {m:Nat}
theorem aZd:bQ PG 152 f152 [4] []=true:=by kernel_rfl
theorem bCv{a b:Rat}(h:FR 30000 a)(h':FR 30000 b)(h0:b≠0):VX (m+12) 152 [tR a,tR b]=some (tR (a/b),false):=by
 have c1:=bF6 (m:=m) h h' h0
 refine bY rfl func152 aZd rfl ?_
 simp only[f152,N1,bD,bJ,bM,bL,bH,zB,zG]
 simp (disch:=first|rfl|omega)only[S1,zB,reduceCtorEq,zD,zG,zH,aY,vJ 224 rfl,c1 _]
theorem aQX{a b:Rat}(h:FR 30000 a)(h':FR 30000 b)(h0:b≠0):CC (VX (m+12)) 152 [tR a,tR b] (tR (a/b)):= .of (pD a b) (rP a b) (bCv h h' h0)
theorem _root_.Go.Proofs.YtmjoaipkaddkbaaGreatDoor.WD.ps{K k:Nat}{l:List Rat}(h:WD K l)(W:K<=32*k)(X:l.length<=1000):PS k l:=⟨X,fun q hq=>by
 obtain⟨h1,h2⟩:=h.parts hq
 have e:2^K<=4294967296^k:=by
  rw[show(4294967296:Nat)=2^32 from rfl,←Nat.pow_mul]
  exact bJ9 (by decide) W
 exact⟨bIP h2 e,bIP h1 e⟩⟩
theorem bEv{s:VS}{l l':List Rat}:dM s [tP l,tP l']=some (.tp [tP l,tP l'],false):=aBy (vD l l') (vA l l')
theorem bDA{s:VS}{l':List Rat}:dM s [.nil,tP l']=some (.tp [tP [],tP l'],false):=by
 have h:cX cK s [.nil,tP l']=some ([.nil,tP l'],s):=by
  show(cX 99999999 s [tP l']).map _=_
  rw[(mY 99999999).2 (iG l').1 (by simp only[bW,uY];decide)]
  rfl
 show(cX cK s [.nil,tP l']).map _=_
 rw[h]
 show some (TV.tp (cL [.nil,tP l']),false)=_
 simp only[cL,(sY l').2]
 rfl
theorem FR.div{j k:Nat}{a b:Rat}(h:FR j a)(h':FR j b)(h0:b≠0)(e:2*j<=k):FR k (a/b):=by rw[Rat.div_def];exact h.mul (h'.inv h0) e
structure DvI(b:List Rat)(ka kb N:Nat)(a:List Rat×List Rat)(f:Nat)(q r:List Rat):Prop where
 res:mV b f q r=a
 fu:r.length<f
 nf:NF r
 nq:NF q
 lq:q.length<=N
 fq:∀j,FR 14000 (co q j)
 wd:∃t,WD (ka+t*(kb+1)) r/\t+r.length<=N
 z:∀j,j+b.length<=r.length->co q j=0
theorem DvI.ps{b:List Rat}{ka kb N:Nat}{a:List Rat×List Rat}{f:Nat}{q r:List Rat}(h:DvI b ka kb N a f q r)(hN:N<=400)(S:b.length<=r.length)(u:ka+(N-b.length)*(kb+1)<=224000):PS 7000 r/\PS 30000 q:=by
 obtain⟨t,h1,h2⟩:=h.wd
 have:=bJ8 (kb+1) (show t<=N-b.length by omega)
 refine⟨h1.ps (by omega) (by omega),by have:=h.lq;omega,fun x hx=> ?_⟩
 obtain⟨j,_,rfl⟩:=aAt hx
 exact(h.fq j).mono (by decide)
theorem DvI.step{b:List Rat}{ka kb N:Nat}{a:List Rat×List Rat}{f:Nat}{q r:List Rat}(h:DvI b ka kb N a f q r)(w:WD kb b)(hn:NF b)(d:b≠ [])(S:b.length<=r.length)(fc:FR 14000 (co r (r.length-1)/co b (b.length-1))):
  ∃F,DvI b ka kb N a F (tr (vP q (r.length-b.length) (co r (r.length-1)/co b (b.length-1)))) (tr (oH r b (r.length-b.length) (co r (r.length-1)/co b (b.length-1)))):=by
 have hs:=aCK hn d S
 have M:0<b.length:=bJK.2 d
 obtain⟨f,rfl⟩:∃k,f=k+1:=⟨f-1,by have:=h.fu;omega⟩
 obtain⟨t,h1,h2⟩:=h.wd
 have Y:co q (r.length-b.length)=0:=h.z _ (by omega)
 refine⟨f, ?_, ?_,.tr _,.tr _, ?_,fun j=> ?_,⟨t+1, ?_,by omega⟩,fun j T=> ?_⟩
 ·have:=h.res
  rw[mV,if_neg (by omega)]at this
  exact this
 ·have:=h.fu;omega
 ·have:=h.lq
  refine aEU (.tr _) fun j T=> ?_
  rw[fF,aAc,if_neg (by omega),gZ (by omega)]
 ·rw[fF,aAc]
  split
  ·next e=>rw[e,Y,Rat.zero_add];exact fc
  ·exact h.fq j
 ·have:=(h1.step w (hn d) (r.length-b.length)).tr
  rw[show ka+(t+1)*(kb+1)=ka+t*(kb+1)+kb+1 by rw[bJT];omega]
  exact this
 ·rw[fF,aAc,if_neg (by omega)]
  exact h.z j (by omega)
theorem aW0:bQ PG 70 f70 [5,4,18] []=true:=by kernel_rfl
theorem aX8{a b:List Rat}{ka kb:Nat}(G:WD ka a)(w:WD kb b)(y:a.length<=400)(A:b.length<=400)(d:tr b≠ [])(u:ka+((tr a).length-(tr b).length)*(kb+1)<=224000)(B:kb<=224000):VX (m+14) 70 [tP a,tP b]=some (.tp [tP (pI a b),tP (fG a b)],false):=by
 have f1:=aFH (m:=m+7) (l:=a) (G.ps (by omega) (by omega))
 have f2:=aFH (m:=m+7) (l:=b) (w.ps (by omega) (by omega))
 refine jP rfl func70 aW0 rfl ?_
 simp only[f70,N1,bD,bJ,bM,bL,bH,zB,zG]
 simp (disch:=first|rfl|omega)only[S1,aC,aE,aM,aJ,zB,zD,vJ 73 rfl,f1 _,f2 _]
 have ntb:NF (tr b):= .tr b
 have wtb:=w.tr
 have M:0<(tr b).length:=bJK.2 d
 have Z:=fK b
 have a':=fK a
 have pb:PS 7000 (tr b):=wtb.ps (by omega) (by omega)
 refine .loop (fun n e s=>∃q r v f,e 1=some (tP (tr b))/\e 6=some (tP r)/\e 7=some v/\(v=tP q\/v= .nil/\q=[])/\DvI (tr b) ka kb (tr a).length (yN a b) f q r/\n=r.length) (tr a).length ?_ (dC (by omega)) ?_
 ·refine⟨[],tr a,.nil,(tr a).length+1, ?_, ?_, ?_,.inr ⟨rfl,rfl⟩,⟨rfl,bIZ _,.tr a,.nil,bIR _,fun j=>by rw[tB];exact .zero (by decide),⟨0,by rw[Nat.zero_mul];exact G.tr,by omega⟩,fun j _=>tB j⟩,rfl⟩<;>simp (disch:=first|rfl|omega)only[S1,zB]
 ·rintro n e s ⟨q,r,v,f,H,I,J,U,C,rfl⟩
  have b':r.length<=400:=by obtain⟨t,_,h⟩:=C.wd;omega
  by_cases hc:(tr b).length<=r.length
  ·obtain⟨pr,pq⟩:=C.ps (by omega) hc u
   have c':=pr.1
   have h1:decide ((tr b).length<=r.length)=true:=decide_eq_true hc
   have D:co (tr b) ((tr b).length-1)≠0:=ntb d
   have g1:FR 7000 (co r (r.length-1)):=pr.co (by omega)
   have g2:FR 7000 (co (tr b) ((tr b).length-1)):=pb.co (by omega)
   have c1:=aQX (m:=m+1) (g1.mono (by decide)) (g2.mono (by decide)) D
   have fc:=g1.div g2 D (k:=14000) (by decide)
   obtain⟨F,i⟩:=C.step wtb ntb d hc fc
   have d':=C.lq
   have g:=aCK ntb d hc
   obtain⟨c,O⟩:∃c,c=co r (r.length-1)/co (tr b) ((tr b).length-1):=⟨_,rfl⟩
   obtain⟨n,p⟩:∃n,n=r.length-(tr b).length:=⟨_,rfl⟩
   rw[←O]at c1 fc i g
   rw[←p]at i g
   have pc:PS 9000000 [c]:=⟨(show(1:Nat)<=1000 by decide),fun q hq=>by rw[List.mem_singleton.1 hq];exact fc.mono (by decide)⟩
   have ht:(jZ [c] n).length<=n+1:=aEU (l:=jZ [c] n) (.tr _) fun j T=>by rw[aD2,if_neg (by omega)]
   have pt:PS 14000 (jZ [c] n):=⟨by omega,fun q hq=>by
    obtain⟨j,_,rfl⟩:=aAt hq
    rw[aD2];split
    ·exact fc
    ·exact .zero (by decide)⟩
   have E:∀k,FR 7000 (co (tr b) k):=zQ pb (by decide)
   have V:∀k,k<=(tr b).length->PS 30000 (pX (jZ [c] n) (tr b) k):=fun k u=>⟨by have:=bEm (tr b) c n k;omega,fun q hq=>by
    obtain⟨j,_,rfl⟩:=aAt hq
    rw[aFZ];split
    ·exact fc.mul ((E _).mono (by decide)) (by decide)
    ·exact .zero (by decide)⟩
   have hT:∀k,k<(tr b).length->PS 30000 (jZ (eI (jZ [c] n) (co (tr b) k)) k):=fun k u=>by
    have l1:(eI (jZ [c] n) (co (tr b) k)).length<=n+1:=bIO (aEA _ _) ht
    refine⟨bIO (fK _) (by rw[bJ3,bJz];omega),fun q hq=> ?_⟩
    obtain⟨j,_,rfl⟩:=aAt hq
    rw[aI0];split
    ·rw[rJ,aD2];split
     ·exact fc.mul ((E _).mono (by decide)) (by decide)
     ·rw[Rat.zero_mul];exact .zero (by decide)
    ·exact .zero (by decide)
   have c3:=aJZ (m:=m+2) pq ⟨pt.1,fun q hq=>(pt.2 q hq).mono (by decide)⟩
   rw[aJk,aWC]at c3
   have c4:=bFJ (m:=m+1) (a:=jZ [c] n) (b:=tr b) ⟨pt.1,fun q hq=>(pt.2 q hq).mono (by decide)⟩ ⟨pb.1,fun q hq=>(pb.2 q hq).mono (by decide)⟩ (by omega) V hT
   have c5:=bGG (m:=m+1) (l:=r) ⟨pr.1,fun q hq=>(pr.2 q hq).mono (by decide)⟩ (V _ (bIK _))
   rw[aY9]at c5
   have P:gD bP (s.new (cR c)) (.ow s.nxt 0 1 4) [c]:= .inr ⟨s.nxt,rfl,bIZ _,by rw[aKy];exact if_pos rfl⟩
   obtain⟨s1,s2,L,q2, -, -⟩:=P.call (f:=153) (ts:=[.int .i64 (n:Nat)]) (Can.cons (cP.int _ _) Can.nil) (by simp only[bW,dA];decide) (show 1*9<=90000000 by decide) (aOP (m:=m+6) pc (by show n+1<=1000;omega))
   have L:=(show dD (VX (m+13)) _ [.ow s.nxt 0 1 4,.int .i64 (n:Nat)] (s.new [.b (decide (c.num<0)),tW (aO c.num.natAbs),.b (decide ((c.den:Int)<0)),tW (aO (c.den:Int).natAbs)])=_ from L)
   rcases U with rfl|⟨rfl,rfl⟩
   ·simp (disch:=first|rfl|omega)only[S1,aN,aC,aE,aM,aJ,aD,zB,zD,zE,zH,aY,H,I,J,h1,lD,kX,c1 _,←p,L,vJ 154 rfl,c3 _,vJ 156 rfl,c4 _,vJ 155 rfl,c5 _]
    exact⟨_,g,tr (vP q n c),tr (oH r (tr b) n c),_,F,rfl,rfl,.inl rfl,i,rfl⟩
   ·simp (disch:=first|rfl|omega)only[S1,aN,aC,aE,aM,aJ,aD,zB,zD,zE,zH,aY,H,I,J,h1,lD,kX,c1 _,←p,L,aLn,vJ 154 rfl,c3 _,vJ 156 rfl,c4 _,vJ 155 rfl,c5 _]
    exact⟨_,g,tr (vP [] n c),tr (oH r (tr b) n c),_,F,rfl,rfl,.inl rfl,i,rfl⟩
  ·have h1:decide ((tr b).length<=r.length)=false:=decide_eq_false hc
   have o:yN a b=(q,r):=by
    rw[←C.res]
    cases f with
    |zero=>rfl
    |succ f=>rw[mV,if_pos (by omega)]
   have Q:pI a b=q:=by rw[pI,o]
   have R:fG a b=r:=by rw[fG,o]
   rw[Q,R]
   rcases U with rfl|⟨rfl,rfl⟩
   ·simp (disch:=first|rfl|omega)only[S1,aN,zB,reduceCtorEq,aY,H,I,J,h1,bEv]
   ·simp (disch:=first|rfl|omega)only[S1,aN,zB,reduceCtorEq,aY,H,I,J,h1,bDA]
theorem aHN{a b:List Rat}{ka kb:Nat}(G:WD ka a)(w:WD kb b)(y:a.length<=400)(A:b.length<=400)(d:tr b≠ [])(u:ka+((tr a).length-(tr b).length)*(kb+1)<=224000)(B:kb<=224000):CC (VX (m+14)) 70 [tP a,tP b] (.tp [tP (pI a b),tP (fG a b)]):= .of (vD a b) (vA a b) (aX8 G w y A d u B)
end
end Go.Proofs.YtmjoaipkaddkbaaGreatDoor.Ev