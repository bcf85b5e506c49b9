/- Part of a proof. -/
import Derived.Test.YtmjoaipkaddkbaaGreatDoorP01
noncomputable section
open Array renaming getElem?_eq_none→bLc,getElem?_toList→bKD
open Bool renaming and_eq_true→bIN,and_false→bLq,and_self→bJv,and_true→bK6,false_and→bKI,false_eq_true→bIY,not_eq_true'→bJi,not_false→bLd,not_true→bKz,or_eq_true→bKk,true_and→bJI
open Int renaming toNat_natCast→bKe
open List renaming all_cons→bJN,all_eq_true→bJt,all_nil→bKr,append_nil→bK3,cons_append→bJG,drop_append→bMf,drop_eq_getElem_cons→bKH,drop_eq_nil_of_le→bMd,drop_succ_cons→bLI,drop_zero→bJd,elem_cons→bMb,elem_iff→bJP,foldl_cons→bKT,getD_eq_getElem?_getD→bJb,getElem?_append_left→bKN,getElem?_cons_succ→bKy,getElem?_cons_zero→bLL,getElem?_eq_some_iff→bJs,length_append→bJ3,length_cons→bIV,length_drop→bJj,length_nil→bJm,length_range→bLF,length_replicate→bJz,length_set→bJX,length_take→bIW,mem_append→bJE,mem_append_left→bKE,mem_append_right→bJL,mem_cons→bJ4,mem_singleton→bJZ,nil_append→bJO,not_mem_nil→bKf,range→bJh,take_append→bM2,take_of_length_le→bJ2,take_succ_cons→bL9,take_take→bJC,take_zero→bKG
open Nat renaming add_comm→bJW,add_sub_cancel→bJw,add_zero→bJD,le_of_ble_eq_true→bIU,le_of_eq→bKx,le_of_lt→bJg,le_of_not_lt→bKP,le_refl→bIK,le_trans→bIO,lt_irrefl→bJq,lt_of_lt_of_le→bIP,lt_or_ge→bIT,lt_succ_self→bIZ,min_eq_left→bJc,mul_div_cancel→bK2,mul_le_mul_right→bJ8,not_lt_zero→bJQ,strongRecOn→bKw,succ_mul→bJT,testBit_or→bLB,zero_add→bJl,zero_le→bIR,zero_mul→bJU
open Option renaming bind_eq_some_iff→bIL,bind_some→bIS,getD_some→bKC,isSome_iff_exists→bLC,map_eq_some_iff→bIM,map_some→bJk
open Go renaming FuncId→bQf,IntKind→bQc,Oper→bQg,Operand→bQd,Program→bQe,TypeId→bQb,Value→bQa,World→bQ9
open Go
namespace Go.Proofs.YtmjoaipkaddkbaaGreatDoor.Ev
section
section
variable {P:bQe}{pr:cM}
theorem aQy{h:Tr}{bet:Nat->Id×Nat}{nx:Nat->Prop}{F:Id->Prop}:∀ {aS:List AV} {vs:List TV} (m:Nat),bO h bet nx F aS vs->ER h bet nx F .nil (tJ aS m) (lM vs m)
 | [],vs,m,q=>by cases q;intro t v M;cases M
 | a::aS,vs,m,q=>by
  cases q with
  | cons ta tl=>
   rename_i v vs
   intro t w M
   have ih:=aQy (m+1) tl
   by_cases e:t=m
   ·have:w=v:=by simp only[lM,bB.upd,if_pos e,Option.some.injEq]at M;exact M.symm
    subst this
    exact⟨a,by show(if m=t then some a else(tJ aS (m+1)).find t)=some a;rw[if_pos e.symm],ta⟩
   ·have n':lM vs (m+1) t=some w:=by simpa only[lM,bB.upd,if_neg e]using M
    obtain⟨b,h1,h2⟩:=ih t w n'
    exact⟨b,by show(if m=t then some a else(tJ aS (m+1)).find t)=some b;rw[if_neg (fun h=>e h.symm)];exact h1,h2⟩
section
variable {n0:Nat}{st:St}{s:VS}{bet:Nat->Id×Nat}{F:Id->Prop}
theorem aXJ(g:VI n0 st s bet F){V:aQ}{e:bB}(he:ER st.heap bet s.dom F .nil V e){x:ResultVar}{v:TV}(q:aAh P e s x=some v):∃a,TR st.heap bet s.dom F a v/\∀k,aDW P x V st k=k a:=by
 cases x with
 |tmp t=>
  obtain⟨a,h1,h2⟩:=he t v q
  exact⟨a,h2,fun k=>aQ.vget_eq h1 k⟩
 | cell a t=>
  simp only[aAh]at q
  split at q
  ·next z=>
   simp only[bIL]at q
   obtain⟨y,B,q⟩:=q
   obtain⟨b,h1,h2⟩:=he a y B
   have q':kD P t s y=some v:=by
    split at q
    ·exact q
    ·cases q
   obtain⟨c,tc,ec⟩:=aOM g h2 q'
   refine⟨c,tc,fun k=> ?_⟩
   show(Bool.rec (motive:=fun _=>aQ->St->KA->OR) (fun _ _ _=>none) (fun V st k=>V.vget a fun y=>aGJ P t st y k) (dE P t)) V st k=_
   rw[z]
   show V.vget a _=_
   rw[aQ.vget_eq h1]
   exact ec k
  ·cases q
theorem aLQ(g:VI n0 st s bet F){V:aQ}{e:bB}(he:ER st.heap bet s.dom F .nil V e):∀ {l:List ResultVar} {vs:List TV},iO P e s l=some vs->∃aS,bO st.heap bet s.dom F aS vs/\∀k,wF P l V st k=k aS
 | [],vs,q=>by simp only[iO]at q;cases q;exact⟨[],.nil,fun k=>rfl⟩
 |x::l,vs,q=>by
  simp only[iO,bIL,bIM]at q
  obtain⟨v,B,vs',I,rfl⟩:=q
  obtain⟨a,h1,h2⟩:=aXJ g he B
  obtain⟨aS,D,h4⟩:=aLQ g he I
  refine⟨a::aS,.cons h1 D,fun k=> ?_⟩
  show aDW P x V st (fun a=>wF P l V st fun l=>k (a::l))=_
  rw[h2,h4]
def aE2(n0:Nat)(st:St)(F:Id->Prop)(aS:List AV)(R:TV)(own:Bool):Prop:=
 ∃F',(∀id,F id->F' id)/\(∀id,F' id->F id\/(n0<=id.nat/\id.nat<st.nxt.nat))/\TR st.heap eG eJ F' (nK aS) (pM R own)/\cI R=true/\(own=true->aTI n0 st F' (nK aS) R)
mutual
theorem aVo:∀ {t:TV},fU t=true->cI t=true
 | .b _,_=>rfl
 | .int _ _,_=>rfl
 | .str _,_=>rfl
 | .ag l,h=>by simp only[cI];exact aEn (l:=l) (by simpa only[fU]using h)
 | .tp l,h=>by simp only[cI];exact aEn (l:=l) (by simpa only[fU]using h)
 | .lit _,_=>rfl
 | .err,_=>rfl
 | .u,_=>rfl
 | .nil,_=>rfl
 | .em,_=>rfl
 | .e0 _,_=>rfl
 | .im _ _,h=>by simp [fU]at h
 | .ow _ _ _ _,h=>by simp [fU]at h
 | .po _ _,h=>by simp [fU]at h
 | .pi _ _,h=>by simp [fU]at h
 | .fn _ _ _,h=>by simp [fU]at h
theorem aEn:∀ {l:List TV},kM l=true->dR l=true
 | [],_=>rfl
 |a::l,h=>by
  simp only[kM,bIN]at h
  simp only[dR,aVo h.1,aEn h.2,bJv]
end
theorem aWz{l:List TV}(h:kM l=true)(o n:Nat):kM ((l.drop o).take n)=true:=by
 have all:∀l:List TV,kM l=true↔∀x∈l,fU x=true:=fun l=>by
  induction l with
  |nil=>simp [kM]
  |cons a l ih=>simp only[kM,bIN,ih,bJ4,forall_eq_or_imp]
 rw[all]at h ⊢
 exact fun x hx=>h x (List.mem_of_mem_drop (List.mem_of_mem_take hx))
theorem bO.part{h:Tr}{bet:Nat->Id×Nat}{nx:Nat->Prop}{F:Id->Prop}:∀ {a:List AV} {v:List TV} (o n:Nat),bO h bet nx F a v->bO h bet nx F ((a.drop o).take n) ((v.drop o).take n)
 | [],_,o,n,q=>by cases q;simp;exact .nil
 |a::l,_,0,0,q=>by simp;exact .nil
 |a::l,_,0,n+1,q=>by
  cases q with
  |cons ha Q=>simp only[bJd,bL9];exact .cons ha (by simpa only[bJd]using bO.part 0 n Q)
 |a::l,_,o+1,n,q=>by
  cases q with
  |cons ha Q=>simp only[bLI];exact bO.part o n Q
theorem bFd(g:VI n0 st s bet F){aS:List AV}{vs:List TV}{R:TV}{own:Bool}(ta:bO st.heap bet s.dom F aS vs)(q:dM s vs=some (R,own)):
  aE2 n0 st F aS R own:=by
 have step:∀ {s':VS} {F':Id->Prop},cY n0 st s bet F st s' bet F'->(∀id,F id->F' id)/\(∀id,F' id->F id\/(n0<=id.nat/\id.nat<st.nxt.nat)):=fun {s' F'} h=>
  ⟨h.sb.sub,fun id hF=>(h.gr id hF).elim .inl fun e=> .inr ⟨e,h.inv.lt id hF⟩⟩
 have weak:(∃F',(∀id,F id->F' id)/\(∀id,F' id->F id\/(n0<=id.nat/\id.nat<st.nxt.nat))/\TR st.heap eG eJ F' (nK aS) R/\cI R=true/\(own=true->False))->aE2 n0 st F aS R own:=fun⟨F',g1,g2,g3,g4,g5⟩=>⟨F',g1,g2,(by cases own with |false=>exact g3|true=>exact(g5 rfl).elim),g4,fun h=>(g5 h).elim⟩
 have one:∀ {a:AV} {v:TV},aS=[a]->TR st.heap bet s.dom F a v->(fE cK s v).map (fun p=>(jN p.1,false))=some (R,own)->aE2 n0 st F aS R own:=by
  rintro a v rfl tv q
  rw[bIM]at q
  obtain⟨p,B,q⟩:=q
  cases q
  obtain⟨F',h1,h2,D⟩:=(xG cK).1 B g tv
  obtain⟨g1,g2⟩:=step h1
  exact weak ⟨F',g1,g2,(h2.closed D).nrm,aEw D,fun h=>by cases h⟩
 have many:(∀a,aS≠ [a])->(cX cK s vs).map (fun p=>(TV.tp (cL p.1),false))=some (R,own)->aE2 n0 st F aS R own:=by
  intro j q
  rw[bIM]at q
  obtain⟨p,B,q⟩:=q
  cases q
  obtain⟨F',k1,k2,k3⟩:=(xG cK).2 B g ta
  obtain⟨g1,g2⟩:=step k1
  have M:nK aS= .tup aS:=by
   cases aS with
   |nil=>rfl
   |cons a l=>
    cases l with
    |nil=>exact absurd rfl (j a)
    |cons _ _=>rfl
  refine weak ⟨F',g1,g2, ?_, ?_,fun h=>by cases h⟩
  ·rw[M];exact .tp (k2.closed k3).nrm
  ·simpa only[cI]using qE k3
 unfold dM at q
 split at q
 ·-- nothing
  cases ta;cases q
  exact weak ⟨F,fun _ h=>h,fun _ h=> .inl h,.tp .nil,rfl,fun h=>by cases h⟩
 ·-- a slice of one's own
  rename_i k off len sz
  cases ta with
  |cons tv tl=>
  cases tl
  rename_i a
  have tv':=tv
  cases tv with
  |ow z J=>
  rename_i cap
  split at q
  ·next hc=>
   obtain⟨_,h0,b',u'⟩:=hc
   cases q
   obtain⟨blk,S,b2,K⟩:=g.obj k z (by rw[h0];decide)
   have rng:=g.rng k z
   have O:=K.length
   have T:=(bO.scal (h':=st.heap) (bet':=eG) (nx':=eJ) (F':=fun i=>i=(bet k).1) K b').part off (len*sz)
   have A:cI (.im sz (((s.ob k).cs.drop off).take (len*sz)))=true:=by simp only[cI];exact aEn (aWz b' _ _)
   have hR:TR st.heap eG eJ (fun i=>i=(bet k).1) (.sl (bet k).1 off len cap sz) (jN (.im sz (((s.ob k).cs.drop off).take (len*sz)))):=(TR.im (F:=fun i=>i=(bet k).1) (off:=off) (len:=len) (cap:=cap) (sz:=sz) rfl ⟨S,K.nm⟩ (by omega) T).nrm
   refine⟨fun i=>F i\/i=(bet k).1,fun i h=> .inl h,fun i h=>h.elim .inl fun e=> .inr (by rw[e];exact rng), ?_, ?_,fun _=> .inl ⟨_,rfl, ?_⟩⟩
   ·exact hR.mono ⟨fun _ _=>rfl,fun i h=> .inr h,fun _ h=>h,fun _ _=>rfl⟩
   ·simp only[cI,dR,aEw A,bJv]
   ·exact hR.mono ⟨fun _ _=>rfl,fun i h=>⟨.inr h,by rw[h];exact rng.1⟩,fun _ h=>h,fun _ _=>rfl⟩
  split at q
  ·next hc=>
   obtain⟨rfl,_,h0,A,hsz⟩:=hc
   simp only[bIL]at q
   obtain⟨p,B,q⟩:=q
   obtain⟨blk,S,b2,K⟩:=g.obj k z (by rw[h0];decide)
   obtain⟨F',h1,h2,D⟩:=(xG cK).2 B g K
   split at q
   ·next hh=>
    cases q
    have U:k<p.2.nxt:=h1.sb.nle _ z
    have W:=h1.inv.sep k U hh
    obtain⟨g1,g2⟩:=step h1
    have d:=(h2.closed (bet':=eG) (nx':=eJ) D).nrm
    have O:=d.length
    have X:(cL p.1).length=len*sz:=by rw[←O,←A];exact K.length
    have G:Sb st.heap eG eJ F' st.heap eG eJ (fun i=>F' i\/i=(bet k).1):=⟨fun _ _=>rfl,fun _ h=> .inl h,fun _ h=>h,fun _ _=>rfl⟩
    have H:Sb st.heap eG eJ F' st.heap eG eJ (fun i=>(F' i\/i=(bet k).1)/\i≠(bet k).1):=⟨fun _ _=>rfl,fun i h=>⟨.inl h,fun e=>W (e ▸ h)⟩,fun _ h=>h,fun _ _=>rfl⟩
    have rng:=g.rng k z
    refine⟨fun i=>F' i\/i=(bet k).1,fun i h=> .inl (g1 i h),fun i h=>h.elim (g2 i) fun e=> .inr (by rw[e];exact rng),.im (.inr rfl) ⟨S,K.nm⟩ (by omega) ?_,by simpa only[cI]using qE D,fun _=> .inr ⟨rfl,sz,cL p.1,(bet k).1,len,cap,blk,[],[],.inl ⟨rfl,rfl,rfl,rfl⟩,.nil,X.symm,hsz,rng.1,rng.2,S,by omega,d.mono H,fun c hc=> ?_⟩⟩
    ·rw[bJd,bJ2 (by omega)]
     exact d.mono G
    ·have:=J c hc
     exact⟨this.1,by omega⟩
   ·cases q
  ·exact one rfl tv' q
 ·rename_i a' _
  cases ta with
  |cons tv tl=>
  cases tl
  exact one rfl tv q
 ·-- several, the first one of one's own
  rename_i k off len sz l h1
  cases ta with
  |cons tv tl=>
  rename_i a al
  have tv':=tv
  have j:∀x,a::al≠ [x]:=fun x e=>by
   cases al with
   |nil=>cases tl;first|exact h1 rfl|exact h1 _ rfl|exact h1 _ _ _ _ rfl
   |cons _ _=>cases e
  cases tv with
  |ow z J=>
  rename_i cap
  split at q
  ·next hc=>
   obtain⟨rfl,_,h0,A,hsz,_⟩:=hc
   simp only[bIL]at q
   obtain⟨p,B,p2,I,q⟩:=q
   obtain⟨blk,S,b2,K⟩:=g.obj k z (by rw[h0];decide)
   obtain⟨F1,h1,h2,D⟩:=(xG cK).2 B g K
   obtain⟨F',k1,k2,k3⟩:=(xG cK).2 I h1.inv (tl.mono h1.sb)
   split at q
   ·next hh=>
    cases q
    have c':=h1.trans k1
    have U:k<p2.2.nxt:=c'.sb.nle _ z
    have W:=k1.inv.sep k U hh
    obtain⟨g1,g2⟩:=step c'
    have d:=((h2.mono k1.sb).closed (bet':=eG) (nx':=eJ) D).nrm
    have E:=(k2.closed (bet':=eG) (nx':=eJ) k3).nrm
    have O:=d.length
    have X:(cL p.1).length=len*sz:=by rw[←O,←A];exact K.length
    have G:Sb st.heap eG eJ F' st.heap eG eJ (fun i=>F' i\/i=(bet k).1):=⟨fun _ _=>rfl,fun _ h=> .inl h,fun _ h=>h,fun _ _=>rfl⟩
    have H:Sb st.heap eG eJ F' st.heap eG eJ (fun i=>(F' i\/i=(bet k).1)/\i≠(bet k).1):=⟨fun _ _=>rfl,fun i h=>⟨.inl h,fun e=>W (e ▸ h)⟩,fun _ h=>h,fun _ _=>rfl⟩
    have rng:=g.rng k z
    have M:nK (.sl (bet k).1 0 len cap sz::al)= .tup (.sl (bet k).1 0 len cap sz::al):=by
     cases al with
     |nil=>exact absurd rfl (j _)
     |cons _ _=>rfl
    have d':oN (.tp (.im sz (cL p.1)::cL p2.1))=none:=by
     have e':=E.length
     cases al with
     |nil=>exact absurd rfl (j _)
     |cons _ _=>cases hz:cL p2.1 with
      |nil=>rw[hz]at e';cases e'
      |cons _ _=>rfl
    unfold aE2
    rw[M]
    refine⟨fun i=>F' i\/i=(bet k).1,fun i h=> .inl (g1 i h),fun i h=>h.elim (g2 i) fun e=> .inr (by rw[e];exact rng), ?_, ?_,fun _=> .inr ⟨d',sz,cL p.1,(bet k).1,len,cap,blk,al,cL p2.1,.inr ⟨rfl,rfl⟩,E.mono H,X.symm,hsz,rng.1,rng.2,S,by omega,d.mono H,fun c hc=> ?_⟩⟩
    ·have e:pM (.tp (.im sz (cL p.1)::cL p2.1)) true= .tp (.im sz (cL p.1)::cL p2.1):=by unfold pM;rw[d'];rfl
     rw[e]
     refine .tp (.cons (.im (.inr rfl) ⟨S,K.nm⟩ (by omega) ?_) (E.mono G))
     rw[bJd,bJ2 (by omega)]
     exact d.mono G
    ·simp only[cI,dR,qE D,qE k3,bJv]
    ·have:=J c hc
     exact⟨this.1,by omega⟩
   ·cases q
  ·exact many j q
 ·rename_i h1 h2 D h4
  refine many (fun a e=> ?_) q
  subst e
  cases ta with
  |cons ta' tl=>cases tl;first|exact D _ rfl|exact h2 _ rfl|exact h4 _ rfl
end
theorem aRi{f:bQf}{fn:Func}{c:Code}{orc:cN}{cal:jM}(A:yE P pr cal)(u:aAA P pr orc)(hf:P.funcs[f]? =some fn)(hp:pr f=none)(hb:fn.body=some c){n0:Nat}{st:St}{s:VS}{bet:Nat->Id×Nat}{F:Id->Prop}(g:VI n0 st s bet F){vs:List TV}{aS:List AV}(ta:bO st.heap bet s.dom F aS vs)
  (o':vs.length<=16) (p':vs.length<=fn.ntmps) {o:eE} {e:bB} {s':VS} (j:∀i,o≠ .exit i) (q:gN P orc cal (nE fn c,fn.ntmps) c (lM vs 0) s=some (o,e,s')) {l:List TV} (ql:iO P e s' fn.results.toList=some l):
  ∃bs st' bet' F',cY n0 st s bet F st' s' bet' F'/\bO st'.heap bet' s'.dom F' bs l/\∃N,∀n,N<=n->∀k,eO P pr f (cD P pr true n) aS st k=k (nK bs) st':=by
 obtain⟨V',st',bet',F',h1,h2,N,D⟩:=bDH A u (nE fn c,fn.ntmps) c g (aQy 0 ta) q
 have f':=ta.length
 obtain⟨bs,tb,eb⟩:=aLQ h1.inv h2 ql
 refine⟨bs,st',bet',F',h1,tb,N,fun n hn k=> ?_⟩
 show(Option.rec (motive:=fun _=>IH->List AV->St->KS->OR) (wS P (P.funcs[f]?)) (fun p _=>p) (pr f)) (cD P pr true n) aS st k=_
 rw[hp,hf]
 show(Option.rec (motive:=fun _=>IH->List AV->St->KS->OR) (fun _ _ _ _=>none) (fun c=>aGt P (nE fn c,fn.ntmps) c fn.results.toList) fn.body) (cD P pr true n) aS st k=_
 rw[hb]
 show bT (Nat.ble (lO aS) 16) (bT (Nat.ble (lO aS) fn.ntmps) (cD P pr true n (nE fn c,fn.ntmps) c (tJ aS 0) st (aKs P fn.results.toList k)) none) none=_
 rw[dG (eK (by rw[xI,f'];exact o')),dG (eK (by rw[xI,f'];exact p')),D n hn]
 cases o with
 |exit i=>exact absurd rfl (j i)
 |normal=>show wF P fn.results.toList V' st' (fun l=>k (nK l) st')=_;rw[eb]
 |ret=>show wF P fn.results.toList V' st' (fun l=>k (nK l) st')=_;rw[eb]
theorem bHs{orc:cN}{cal:jM}(A:yE P pr cal)(u:aAA P pr orc){f:bQf}{fn:Func}(hf:P.funcs[f]? =some fn)(hp:pr f=none){vs:List TV}{R:TV}{own:Bool}(q:vfn P orc cal fn vs=some (R,own)):jT P pr f vs R own:=by
 intro st aS F g' ta r' i' t' j' k'
 simp only[vfn,bIL]at q
 obtain⟨c,B,q⟩:=q
 split at q
 case isFalse=>cases q
 case isTrue C=>
 simp only[bIL]at q
 obtain⟨⟨o,e,s⟩,I,q⟩:=q
 have g:VI st.nxt.nat st eA eG F:=⟨t',bIK _,j',fun k z=>absurd z (bJQ _),fun k z=>absurd z (bJQ _),fun k _ z=>absurd z (bJQ _),fun k z=>absurd z (bJQ _),r',i',k'⟩
 have fin:(∀i,o≠ .exit i)->(iO P e s fn.results.toList).bind (fun l=>dM s l)=some (R,own)->∃a st' F',aAN st st' F F' a R own/\∃N,∀n,N<=n->∀k,eO P pr f (cD P pr true n) aS st k=k a st':=by
  intro j q
  simp only[bIL]at q
  obtain⟨l,e3,q⟩:=q
  obtain⟨bs,st',bet',F',h1,tb,N,hN⟩:=aRi A u hf hp B g (ta.closedA g') C.1 C.2 j I e3
  obtain⟨F2,g1,g2,g3,g4,g5⟩:=bFd h1.inv tb q
  refine⟨nK bs,st',F2,⟨g3,g4,fun id h=>g1 id (h1.sb.sub id h),fun id h=> ?_,h1.old,h1.rq,h1.hq,h1.nx,g5⟩,N,hN⟩
  rcases g2 id h with h|h
  ·exact(h1.gr id h).elim .inl fun e=> .inr ⟨e,h1.inv.lt id h⟩
  ·exact .inr h
 cases o with
 |exit i=>simp only at q;cases q
 |normal=>exact fin (fun i e=>by cases e) q
 |ret=>exact fin (fun i e=>by cases e) q
def aCi(P:bQe)(pr:cM)(pv:cN):Prop:=∀f vs R own,pv f vs=some (R,own)->jT P pr f vs R own
theorem bEL{h:Tr}{bet:Nat->Id×Nat}{nx:Nat->Prop}{F:Id->Prop}{bs:List AV}{l:List TV}(t:bO h bet nx F bs l):TR h bet nx F (nK bs) (aH l):=by
 cases t with
 |nil=>exact .tp .nil
 |cons ha Q=>cases Q with
  |nil=>exact ha
  |cons hb Q=>exact .tp (.cons ha (.cons hb Q))
theorem aPB{cC:lW}{orc:cN}(Y:mK P pr orc)(u:aAA P pr orc)(L:∀f,cC f=true->pr f=none):∀m,yE P pr (fH P cC orc m)
 |0=>aZS Y
 | m+1=>fun n0 st s bet F g f args aS v s' ta q=>by
  simp only[fH]at q
  split at q
  ·next hi=>
   simp only[bIL]at q
   obtain⟨fn,B,c,I,q⟩:=q
   split at q
   case isFalse=>cases q
   case isTrue C=>
   simp only[bIL]at q
   obtain⟨⟨o,e,s1⟩,e3,q⟩:=q
   have fin:(∀i,o≠ .exit i)->(iO P e s1 fn.results.toList).map (fun l=>(aH l,s1))=some (v,s')->∃c st' bet' F',cY n0 st s bet F st' s' bet' F'/\TR st'.heap bet' s'.dom F' c v/\∃N,∀n,N<=n->∀k,eO P pr f (cD P pr true n) aS st k=k c st':=by
    intro j q
    rw[bIM]at q
    obtain⟨l,e4,q⟩:=q
    simp only[Prod.mk.injEq]at q
    obtain⟨rfl,rfl⟩:=q
    obtain⟨bs,st',bet',F',h1,tb,N,hN⟩:=aRi (aPB Y u L m) u B (L f hi) I g ta C.1 C.2 j e3 e4
    exact⟨nK bs,st',bet',F',h1,bEL tb,N,hN⟩
   cases o with
   |exit i=>simp only at q;cases q
   |normal=>exact fin (fun i e=>by cases e) q
   |ret=>exact fin (fun i e=>by cases e) q
  ·exact aNq Y g ta q
theorem aAN.fgt{st st':St}{F F':Id->Prop}{a:AV}{R:TV}{own:Bool}(h:aAN st st' F F' a R own):aAN st st' F F' a (pM R own) false:=by
 refine⟨by simpa only[pM,bIY,if_false]using h.tr, ?_,h.sub,h.new,h.old,h.rq,h.hq,h.nx,fun e=>by cases e⟩
 have hc:=h.cl
 unfold pM
 split
 ·unfold oN
  split
  ·simpa only[bKC,cI,dR,bK6]using hc
  ·exact hc
 ·exact hc
theorem jT.fgt{f:bQf}{vs:List TV}{R:TV}{own:Bool}(h:jT P pr f vs R own):jT P pr f vs (pM R own) false:=fun st aS F h1 h2 D h4 h5 h6 h7=>by
 obtain⟨a,st',F',hr,hn⟩:=h st aS F h1 h2 D h4 h5 h6 h7
 exact⟨a,st',F',hr.fgt,hn⟩
theorem aBO{cC:lW}{pv:cN}(l':aCi P pr pv)(u:∀orc,mK P pr orc->aAA P pr orc)(L:∀f,cC f=true->pr f=none)(m':∀f,pr f≠none->cC.prim f=true):∀m,mK P pr (gG P cC pv m)
 |0=>fun f vs R own q=>by cases q
 | m+1=>fun f vs R own q=>by
  have ih:=aBO l' u L m' m
  simp only[gG]at q
  cases g:pv f vs with
  |some r=>
   rw[g]at q
   simp only at q
   cases q
   exact l' f vs R own g
  | none=>
   rw[g]at q
   simp only at q
   split at q
   case isTrue=>cases q
   case isFalse Z=>
   simp only[bIL]at q
   obtain⟨fn,B,q⟩:=q
   rw[bIM]at q
   obtain⟨⟨R1,own1⟩,q,I⟩:=q
   have hf:=bHs (aPB ih (u _ ih) L lA) (u _ ih) B (by
    cases hp:pr f with
    |none=>rfl
    |some p=>exact absurd (m' f (by rw[hp];exact fun h=>by cases h)) Z) q
   unfold Ev.nQ at I
   split at I
   ·cases I;exact hf.fgt
   ·cases I;exact hf
end
end
section
theorem aMa(acc:List Nat)(j:Nat):∀(l:List Nat) (s:Nat),(l.foldl (fun s e=>Nat.lor s (Nat.lor (Nat.pow 2 e) (acc.getD e 0))) s).testBit j=true↔s.testBit j=true\/∃e∈l,e=j\/(acc.getD e 0).testBit j=true
 | [],s=>by simp
 | e::l,s=>by
  rw[bKT,aMa acc j l]
  have h1:(Nat.lor s (Nat.lor (Nat.pow 2 e) (acc.getD e 0))).testBit j=(s.testBit j||((2^e).testBit j||(acc.getD e 0).testBit j)):=by
   show(s|||(2^e|||acc.getD e 0)).testBit j=_
   rw[bLB,bLB]
  have h2:(2^e).testBit j=decide (e=j):=Nat.testBit_two_pow
  rw[h1,h2]
  simp only[bKk,decide_eq_true_eq,bJ4]
  constructor
  ·rintro((h|h|h)|⟨p,h,h'⟩)
   ·exact .inl h
   ·exact .inr ⟨e,.inl rfl,.inl h⟩
   ·exact .inr ⟨e,.inl rfl,.inr h⟩
   ·exact .inr ⟨p,.inr h,h'⟩
  ·rintro(h|⟨p,rfl|h,h'⟩)
   ·exact .inl (.inl h)
   ·rcases h' with h'|h'
    ·exact .inl (.inr (.inl h'))
    ·exact .inl (.inr (.inr h'))
   ·exact .inr ⟨p,h,h'⟩
theorem aLu:∀(l:List bQg) (acc:List Nat),(dH l acc).length=acc.length+l.length/\(∀i,i<acc.length->(dH l acc).getD i 0=acc.getD i 0)/\
  ∀i o,l[i]? =some o->(∀m∈jX o,m<acc.length+i)->(dH l acc).getD (acc.length+i) 0=pC (dH l acc) (jX o)
 | [],acc=>⟨by simp [dH],fun i h=>rfl,fun i o h=>by simp at h⟩
 | o ::l,acc=>by
  obtain⟨h1,h2,t⟩:=aLu l (acc++[pC acc (jX o)])
  have f:dH (o::l) acc=dH l (acc++[pC acc (jX o)]):=rfl
  have q:(acc++[pC acc (jX o)]).length=acc.length+1:=by simp
  have hold:∀i,i<acc.length->(dH l (acc++[pC acc (jX o)])).getD i 0=acc.getD i 0:=fun i g=>by
   rw[h2 i (by omega)]
   simp only[bJb,bKN g]
  refine⟨by rw[f,h1,q,bIV];omega,fun i g=>by rw[f];exact hold i g,fun i r d b=> ?_⟩
  rw[f]
  cases i with
  | zero=>
   have d:o=r:=by simpa using d
   subst d
   rw[bJD,h2 acc.length (by omega)]
   simp only[bJb,List.getElem?_concat_length,bKC]
   have:∀(ns:List Nat) (s:Nat),(∀m∈ns,m<acc.length)->ns.foldl (fun s e=>Nat.lor s (Nat.lor (Nat.pow 2 e) (acc.getD e 0))) s=ns.foldl (fun s e=>Nat.lor s (Nat.lor (Nat.pow 2 e) ((dH l (acc++[pC acc (jX o)])).getD e 0))) s:=by
    intro ns
    induction ns with
    |nil=>intro s _;rfl
    |cons e ns ih=>
     intro s hn
     rw[bKT,bKT,hold e (hn e (.head _))]
     exact ih _ fun m f=>hn m (.tail _ f)
   exact this _ 0 fun m f=>by have:=b m f;omega
  |succ i=>
   have d:l[i]? =some r:=by simpa using d
   have:=t i r d (fun m f=>by rw[q];have:=b m f;omega)
   rw[q]at this
   rw[show acc.length+(i+1)=acc.length+1+i by omega]
   exact this
def nG(a:List bQg)(j i:Nat):Prop:=((dH a []).getD i 0).testBit j=true
theorem aHY{a:List bQg}(c:eS a=true){i:Nat}{o:bQg}(d:a[i]? =some o)(j:Nat):nG a j i↔∃e∈jX o,e=j\/nG a j e:=by
 have hn:=(aEr c).1 i o d
 have:=(aLu a []).2.2 i o d (by simpa using hn)
 rw[bJm,bJl]at this
 unfold nG
 rw[this]
 unfold pC
 rw[aMa]
 simp
theorem aFj{a:List bQg}(c:eS a=true):∀ {i j:Nat},i<a.length->nG a j i->j<i:=by
 intro i
 induction i using bKw with
 |_ i ih=>
  intro j g h
  have d:a[i]? =some a[i]:=by simp [g]
  obtain⟨e,n,h⟩:=(aHY c d j).1 h
  have b:=(aEr c).1 i _ d e n
  rcases h with rfl|h
  ·exact b
  ·exact Nat.lt_trans (ih e b (by omega) h) b
theorem aVA{a:List bQg}(c:eS a=true):∀ {i j m:Nat},i<a.length->nG a j i->nG a m j->nG a m i:=by
 intro i
 induction i using bKw with
 |_ i ih=>
  intro j m g h k
  have d:a[i]? =some a[i]:=by simp [g]
  obtain⟨e,n,h⟩:=(aHY c d j).1 h
  have b:=(aEr c).1 i _ d e n
  refine(aHY c d m).2 ⟨e,n,.inr ?_⟩
  rcases h with rfl|h
  ·exact k
  ·exact ih e b (by omega) h k
theorem aMc{a:List bQg}{i j:Nat}(h:j<i):gB (dH a []) j i=true↔nG a j i:=by
 unfold gB nG
 rw[if_pos h]
end
section
def KP(s:VS)(bet:Nat->Id×Nat)(φ:Nat->Prop):Nat->Prop:=fun k=>k<s.nxt/\φ (bet k).1.nat
def FP(F:Id->Prop)(φ:Nat->Prop):Id->Prop:=fun id=>F id/\φ id.nat
def VC(φ:Nat->Prop)(st:St)(s:VS)(bet:Nat->Id×Nat)(F:Id->Prop):Prop:=
 ∀k,k<s.nxt->(s.ob k).how≠2->φ (bet k).1.nat->∃blk,Tr.find (bet k).1 st.heap=some blk/\blk.cells.length=(bet k).2/\bO st.heap bet (KP s bet φ) (FP F φ) blk.cells (s.ob k).cs
section
variable {n0:Nat}{st:St}{P:bQe}{φ:Nat->Prop}
theorem aDH{s s':VS}{bet:Nat->Id×Nat}{F F':Id->Prop}(h:Sb st.heap bet s.dom F st.heap bet s'.dom F'):Sb st.heap bet (KP s bet φ) (FP F φ) st.heap bet (KP s' bet φ) (FP F' φ):=
 ⟨fun _ _=>rfl,fun id t=>⟨h.sub id t.1,t.2⟩,fun k d=>⟨h.nle k d.1,d.2⟩,fun _ _=>rfl⟩
theorem VC.freeze{s:VS}{bet:Nat->Id×Nat}{F:Id->Prop}(hc:VC φ st s bet F){k:Nat}(h2:(s.ob k).how≠2)(d:k<s.nxt)(g:VI n0 st s bet F):VC φ st (s.set k ⟨1,(s.ob k).cs⟩) bet (fun id=>F id\/id=(bet k).1):=by
 intro j G y hφ
 have how:(s.ob j).how≠2:=by
  by_cases e:j=k
  ·rw[e];exact h2
  ·rw[VS.set_ne _ _ e]at y;exact y
 obtain⟨blk,h1,f,D⟩:=hc j G how hφ
 refine⟨blk,h1,f, ?_⟩
 have hs:=aDH (φ:=φ) (g.freeze d h2).sb
 by_cases e:j=k
 ·subst e;rw[VS.set_ob];exact D.mono hs
 ·rw[VS.set_ne _ _ e];exact D.mono hs
theorem aER:∀m:Nat,
  (∀ {s s':VS} {bet:Nat->Id×Nat} {F:Id->Prop} {v w:TV} {a:AV},fE m s v=some (w,s')->VI n0 st s bet F->VC φ st s bet F->TR st.heap bet (KP s bet φ) (FP F φ) a v->∃F',cY n0 st s bet F st s' bet F'/\VC φ st s' bet F'/\TR st.heap bet (KP s' bet φ) (FP F' φ) a w/\cI w=true)/\
  (∀ {s s':VS} {bet:Nat->Id×Nat} {F:Id->Prop} {v w:List TV} {a:List AV},cX m s v=some (w,s')->VI n0 st s bet F->VC φ st s bet F->bO st.heap bet (KP s bet φ) (FP F φ) a v->∃F',cY n0 st s bet F st s' bet F'/\VC φ st s' bet F'/\bO st.heap bet (KP s' bet φ) (FP F' φ) a w/\dR w=true)
 |0=>⟨fun q=>by simp [fE]at q,fun q=>by simp [cX]at q⟩
 | m +1=>by
  obtain⟨A,n⟩:=aER m
  refine⟨fun {s s' bet F v w a} q g c ta=> ?_,fun {s s' bet F v w a} q g c ta=> ?_⟩
  ·have leaf:(if cI v then some (v,s)else none)=some (w,s')->∃F',cY n0 st s bet F st s' bet F'/\VC φ st s' bet F'/\TR st.heap bet (KP s' bet φ) (FP F' φ) a w/\cI w=true:=by
    intro q
    split at q
    ·next hc=>cases q;exact⟨F,cY.refl g,c,ta,hc⟩
    ·cases q
   cases ta with
   | ow d hc=>
    rename_i k off len cap sz
    simp only[fE]at q
    split at q
    ·next o=>
     simp only[bIL,bIM]at q
     obtain⟨l,B,p,C,q⟩:=q
     cases q
     obtain⟨c1,c2⟩:=wY B
     obtain⟨blk,h1,h2,f⟩:=c k d.1 o.2 d.2
     have x:=f.length
     have r:=g.freeze d.1 o.2
     have win:bO st.heap bet (KP s bet φ) (FP F φ) ((blk.cells.drop off).take (len*sz)) l:=by rw[c2];exact(f.drop off).take _
     obtain⟨F',z,vc2,t2,t3⟩:=n (a:=(blk.cells.drop off).take (len*sz)) C r.inv (c.freeze o.2 d.1 g) (win.mono (aDH r.sb))
     refine⟨F',r.trans z,vc2,.im ⟨z.sb.sub _ (.inr rfl),d.2⟩ ⟨h1,f.nm⟩ (by omega) t2,by simpa only[cI]using t3⟩
    ·cases q
   |ag hc=>
    simp only[fE,bIM]at q
    obtain⟨p,e,q⟩:=q
    cases q
    obtain⟨F',h1,vc,h2,f⟩:=n e g c hc
    exact⟨F',h1,vc,.ag h2,by simpa only[cI]using f⟩
   |tp hc=>
    simp only[fE,bIM]at q
    obtain⟨p,e,q⟩:=q
    cases q
    obtain⟨F',h1,vc,h2,f⟩:=n e g c hc
    exact⟨F',h1,vc,.tp h2,by simpa only[cI]using f⟩
   |b=>exact leaf q
   |i=>exact leaf q
   |m=>exact leaf q
   |str=>exact leaf q
   |lit=>exact leaf q
   |err=>exact leaf q
   |u=>exact leaf q
   |nil=>exact leaf q
   |imv=>exact leaf q
   |imse=>exact leaf q
   |im t hf x hc=>exact leaf q
   |e0 t hf x=>exact leaf q
   |po d=>exact leaf q
   |pi t hf x hc=>exact leaf q
   |fn E I=>exact leaf q
   |emv=>exact leaf q
   |emse=>exact leaf q
   |ems t hf x=>exact leaf q
  ·cases ta with
   |nil=>simp only[cX]at q;cases q;exact⟨F,cY.refl g,c,.nil,rfl⟩
   |cons E x=>
    simp only[cX,bIL,bIM]at q
    obtain⟨p,B,J,C,q⟩:=q
    cases q
    obtain⟨F1,h1,vc1,h2,f⟩:=A B g c E
    obtain⟨F2,k1,vc2,k2,H⟩:=n C h1.inv vc1 (x.mono (aDH h1.sb))
    exact⟨F2,h1.trans k1,vc2,.cons (h2.mono (aDH k1.sb)) k2,by simp only[dR,f,H,bJv]⟩
end
end
section
def mH(s s':VS):Prop:=s'.nxt=s.nxt/\∀k,(s'.ob k).cs=(s.ob k).cs/\((s'.ob k).how≠2->(s.ob k).how≠2)/\((s'.ob k).how=0->(s.ob k).how=0)
theorem mH.refl(s:VS):mH s s:=⟨rfl,fun _k=>⟨rfl,id,id⟩⟩
theorem mH.trans{a b c:VS}(h:mH a b)(k:mH b c):mH a c:=⟨k.1.trans h.1,fun i=>⟨(k.2 i).1.trans (h.2 i).1,fun e=>(h.2 i).2.1 ((k.2 i).2.1 e),fun e=>(h.2 i).2.2 ((k.2 i).2.2 e)⟩⟩
theorem aEG:∀m:Nat,(∀ {s s':VS} {v w:TV},fE m s v=some (w,s')->mH s s')/\(∀ {s s':VS} {v w:List TV},cX m s v=some (w,s')->mH s s')
 |0=>⟨fun q=>by simp [fE]at q,fun q=>by simp [cX]at q⟩
 | m +1=>by
  obtain⟨d',J⟩:=aEG m
  refine⟨fun {s s' v w} q=> ?_,fun {s s' v w} q=> ?_⟩
  ·have leaf:(if cI v then some (v,s)else none)=some (w,s')->mH s s':=fun q=>by
    split at q
    ·cases q;exact mH.refl s
    ·cases q
   cases v with
   | ow k off len sz=>
    simp only[fE]at q
    split at q
    ·next e'=>
     simp only[bIL,bIM]at q
     obtain⟨l,B,p,C,q⟩:=q
     cases q
     have h1:mH s (s.set k ⟨1,(s.ob k).cs⟩):=⟨rfl,fun j=>by
      by_cases e:j=k
      ·subst e;rw[VS.set_ob];exact⟨rfl,fun _=>e'.2,fun h=>by cases h⟩
      ·rw[VS.set_ne _ _ e];exact⟨rfl,id,id⟩⟩
     exact h1.trans (J C)
    ·cases q
   |ag cs=>
    simp only[fE,bIM]at q
    obtain⟨p,e,q⟩:=q
    cases q;exact J e
   |tp cs=>
    simp only[fE,bIM]at q
    obtain⟨p,e,q⟩:=q
    cases q;exact J e
   |_=>exact leaf q
  ·cases v with
   |nil=>simp only[cX]at q;cases q;exact mH.refl s
   |cons a l=>
    simp only[cX,bIL,bIM]at q
    obtain⟨p,B,p2,C,q⟩:=q
    cases q
    exact(d' B).trans (J C)
theorem aV4{s s':VS}{v w:TV}(q:aD5 s v=some (w,s')):mH s s':=by
 unfold aD5 at q
 split at q
 ·simp only[bIL]at q
  obtain⟨p,B,q⟩:=q
  split at q
  ·cases q;exact(aEG cK).1 B
  ·cases q
 ·exact(aEG cK).1 q
theorem aLC:∀ {v w:List TV} {s s':VS},xX v s=some (w,s')->mH s s'
 | [],_,_,_,q=>by simp only[xX]at q;cases q;exact mH.refl _
 |a::l,_,_,_,q=>by
  simp only[xX,bIL,bIM]at q
  obtain⟨p,B,p2,C,q⟩:=q
  cases q
  exact(aV4 B).trans (aLC C)
section
variable {n0:Nat}{P:bQe}{φ:Nat->Prop}
theorem aBA{st:St}{l:List (Nat×Nat)}{id:Id}(h:st.vis id)(H:∀p∈l,¬(p.1<=id.nat/\id.nat<p.2)):(dN l st).vis id:=by
 intro p hp
 have hp:p∈qS l st.hid:=hp
 rw[uV,bJE]at hp
 rcases hp with hp|hp
 ·exact H p hp
 ·exact h p hp
def aKv(n0:Nat)(φ:Nat->Prop)(st:St)(bet:Nat->Id×Nat)(F:Id->Prop)(s:VS)(aS:List AV)(vs:List TV)(s1:VS):Prop:=
 ∃F1,cY n0 st s bet F st s1 bet F1/\VC φ st s1 bet F1/\bO st.heap eG eJ (FP F1 φ) aS vs/\pF vs=true
theorem bHL{h:Tr}{bet:Nat->Id×Nat}{nx:Nat->Prop}{F:Id->Prop}{id:Id}{off len sz f':Nat}{cap:Option Nat}{cs:List TV}(q:TR h bet nx F (.sl id off len cap sz) (.im f' cs)):
  ∃blk,F id/\FC h id blk/\off+len*sz<=blk.cells.length/\bO h bet nx F ((blk.cells.drop off).take (len*sz)) cs:=by
 cases q with
 |im Q hf H hc=>exact⟨_,Q,hf,H,hc⟩
theorem aVh{st:St}{s s':VS}{bet:Nat->Id×Nat}{F:Id->Prop}{v w:TV}{a:AV}(q:aD5 s v=some (w,s'))(I:VI n0 st s bet F)(z:VC φ st s bet F)(ta:TR st.heap bet (KP s bet φ) (FP F φ) a v):
  ∃F',cY n0 st s bet F st s' bet F'/\VC φ st s' bet F'/\TR st.heap eG eJ (FP F' φ) a w/\oG w=true:=by
 unfold aD5 at q
 split at q
 ·next k off=>
  simp only[bIL]at q
  obtain⟨p,B,q⟩:=q
  cases ta with
  |po o=>
  have S:TR st.heap bet (KP s bet φ) (FP F φ) (.sl (bet k).1 0 (s.ob k).cs.length none 1) (.ow k 0 (s.ob k).cs.length 1):= .ow o fun c h=>by cases h
  obtain⟨F',h1,h2,D,K⟩:=(aER cK).1 B I z S
  split at q
  ·next sz cs hp=>
   cases q
   rw[hp]at D K
   have D:=D.closed (bet':=eG) (nx':=eJ) K
   obtain⟨blk,Q,hf,H,hc⟩:=bHL D
   refine⟨F',h1,h2, ?_,by simpa only[oG,cI]using K⟩
   have:=TR.pi (off:=off) Q hf H hc
   rw[bJl]at this
   exact this
  ·cases q
 ·obtain⟨F',h1,h2,D,K⟩:=(aER cK).1 q I z ta
  exact⟨F',h1,h2,D.closed K,aHr K⟩
theorem aLY{st:St}{bet:Nat->Id×Nat}:∀ {v w:List TV} {s s':VS} {F:Id->Prop} {a:List AV},xX v s=some (w,s')->VI n0 st s bet F->VC φ st s bet F->bO st.heap bet (KP s bet φ) (FP F φ) a v->aKv n0 φ st bet F s a w s'
 | [],_,_,_,F,_,q,I,z,ta=>by
  simp only[xX]at q
  cases q
  cases ta
  exact⟨F,cY.refl I,z,.nil,rfl⟩
 |x::l,_,_,_,F,_,q,I,z,ta=>by
  simp only[xX,bIL,bIM]at q
  obtain⟨p,B,p2,C,q⟩:=q
  cases q
  cases ta with
  |cons T H=>
  obtain⟨F1,h1,vc1,h2,D⟩:=aVh B I z T
  obtain⟨F2,k1,vc2,k2,k3⟩:=aLY C h1.inv vc1 (H.mono (aDH h1.sb))
  exact⟨F2,h1.trans k1,vc2,.cons (h2.mono ⟨fun _ _=>rfl,fun id h=>⟨k1.sb.sub id h.1,h.2⟩,fun _ h=>h.elim,fun _ h=>h.elim⟩) k2,by simp only[pF,D,k3,bJv]⟩
theorem aVV{st:St}{s s':VS}{bet:Nat->Id×Nat}{F:Id->Prop}{v w:List TV}{a:List AV}(q:cX cK s v=some (w,s'))(I:VI n0 st s bet F)(z:VC φ st s bet F)(ta:bO st.heap bet (KP s bet φ) (FP F φ) a v):aKv n0 φ st bet F s a w s':=by
 obtain⟨F1,h1,vc1,h2,D⟩:=(aER cK).2 q I z ta
 exact⟨F1,h1,vc1,h2.closed D,aCB D⟩
theorem aXk{orc:cN}{pr:cM}(g':mK P pr orc){st:St}{s s':VS}{bet:Nat->Id×Nat}{F:Id->Prop}(I:VI n0 st s bet F)(z:VC φ st s bet F){f:bQf}{args:List TV}{aS:List AV}{v:TV}{l:List (Nat×Nat)}
  (ta:bO st.heap bet (KP s bet φ) (FP F φ) aS args) (q:vI orc f args s=some (v,s')) (H:∀p∈l,(∀x,φ x->¬(p.1<=x/\x<p.2))\/∃k,k<s.nxt/\p=((bet k).1.nat,(bet k).1.nat+1)/\(s'.ob k).how=0) (h':∀p∈l,p.2<=st.nxt.nat) (hφ:∀x,x<n0->φ x):
  ∃c d bet' F',cY n0 st s bet F (dS st d) s' bet' F'/\TR d.heap bet' (KP s' bet' (fun x=>φ x\/(st.nxt.nat<=x/\x<d.nxt.nat))) (FP F' (fun x=>φ x\/(st.nxt.nat<=x/\x<d.nxt.nat))) c v/\
   (∃N,∀n,N<=n->∀k,eO P pr f (cD P pr true n) aS (dN l st) k=k c d)/\
   (∀k,k<s.nxt->(s'.ob k).cs=(s.ob k).cs/\((s'.ob k).how≠2->(s.ob k).how≠2)/\((s'.ob k).how=0->(s.ob k).how=0))/\s.nxt<=s'.nxt/\
   (∀k,s.nxt<=k->k<s'.nxt->st.nxt.nat<=(bet' k).1.nat/\∃blk,Tr.find (bet' k).1 d.heap=some blk/\blk.cells.length=(bet' k).2/\bO d.heap bet' (KP s' bet' (fun x=>φ x\/(st.nxt.nat<=x/\x<d.nxt.nat))) (FP F' (fun x=>φ x\/(st.nxt.nat<=x/\x<d.nxt.nat))) blk.cells (s'.ob k).cs)/\
   st.nxt.nat<=d.nxt.nat/\∀id:Id,id.nat<st.nxt.nat->Tr.find id d.heap=Tr.find id st.heap:=by
 have q0:∃vs s1 R own,(aKv n0 φ st bet F s aS vs s1/\mH s s1)/\orc f (cL vs)=some (R,own)/\(if own=true then nN R s1 else some (R,s1))=some (v,s'):=by
  unfold vI at q
  split at q
  ·simp only[dD,bIL]at q
   obtain⟨⟨vs,s1⟩,B,⟨R,own⟩,C,q⟩:=q
   exact⟨vs,s1,R,own,⟨aVV B I z ta,(aEG cK).2 B⟩,C,q⟩
  ·simp only[aRp,bIL]at q
   obtain⟨⟨vs,s1⟩,B,⟨R,own⟩,C,q⟩:=q
   exact⟨vs,s1,R,own,⟨aLY B I z ta,aLC B⟩,C,q⟩
 clear q
 obtain⟨vs,s1,R,own,⟨⟨F1,h1,p',h2,D⟩,g⟩,C,q⟩:=q0
 have u:=h1.inv
 have U:∀k,k<s.nxt->(s'.ob k).how=0->(s1.ob k).how=0:=fun k o hh=>by
  cases own with
  |false=>
   simp only[bIY,if_false,Option.some.injEq,Prod.mk.injEq]at q
   rw[q.2];exact hh
  | true=>
   simp only[if_true]at q
   have r:s'=s1\/∃cs,s'=s1.new cs:=by
    unfold nN at q
    split at q
    ·cases q;exact .inl rfl
    ·split at q
     ·split at q
      ·cases q;exact .inr ⟨_,rfl⟩
      ·cases q
     ·split at q
      ·cases q;exact .inr ⟨_,rfl⟩
      ·cases q
     ·cases q
   rcases r with rfl|⟨cs,rfl⟩
   ·exact hh
   have L:k≠s1.nxt:=by rw[g.1];omega
   have this:∀cs,(s1.new cs).ob k=s1.ob k:=fun cs=>if_neg L
   rw[this]at hh;exact hh
 have i':=H
 have H:∀p∈l,∀id,FP F1 φ id->¬(p.1<=id.nat/\id.nat<p.2):=fun p hp id Q hh=>by
  rcases H p hp with h|⟨k,o,rfl,h0⟩
  ·exact h _ Q.2 hh
  ·have e:id=(bet k).1:=Id.nat_inj (by simp only at hh;omega)
   exact u.sep k (by rw[g.1];exact o) (U k o h0) (e ▸ Q.1)
 have V:(dN l st).ro=st.nxt.nat:=rfl
 have W:tK n0 (dN l st):=fun q hq=>by
  obtain⟨t1,t2,t3⟩:=u.tab q hq
  refine⟨t1,t2,aBA t3 fun p hp hh=> ?_⟩
  rcases i' p hp with h|⟨k,o,rfl, -⟩
  ·exact h _ (hφ _ t1) hh
  ·have:=(I.rng k o).1
   simp only at hh;omega
 obtain⟨a,d,F',X,N,hN⟩:=g' f _ R own C (dN l st) aS (FP F1 φ) (aP5 D) h2.nrm (fun id h=>u.lt id h.1) (fun id h=>aBA (u.vis id h.1) fun p hp=>H p hp id h) (bKx V) (fun p hp=>by
  have hp:p∈qS l st.hid:=hp
  rw[uV,bJE]at hp
  rcases hp with hp|hp
  ·exact h' p hp
  ·exact bIO (u.hid p hp) u.low) (W.le u.low)
 have E:st.nxt.nat<=d.nxt.nat:=X.nx
 have hold:∀id:Id,id.nat<st.nxt.nat->Tr.find id d.heap=Tr.find id st.heap:=X.old
 have r:∀id,F' id->FP F1 φ id\/(st.nxt.nat<=id.nat/\id.nat<d.nxt.nat):=X.new
 cases own with
 | false=>
  simp only[bIY,if_false,Option.some.injEq,Prod.mk.injEq]at q
  obtain⟨rfl,rfl⟩:=q
  have y:=u.call (st':=dS st d) (F':=fun id=>F1 id\/F' id) (fun id h=> .inl h) (fun id h=>h.elim .inl fun h=>(r id h).elim (fun h=> .inl h.1) .inr) hold rfl rfl E
  have A:Sb d.heap eG eJ F' d.heap bet (KP s1 bet (fun x=>φ x\/(st.nxt.nat<=x/\x<d.nxt.nat))) (FP (fun id=>F1 id\/F' id) (fun x=>φ x\/(st.nxt.nat<=x/\x<d.nxt.nat))):=
   ⟨fun _ _=>rfl,fun id h=>⟨.inr h,(r id h).elim (fun h=> .inl h.2) .inr⟩,fun k o=>o.elim,fun k o=>o.elim⟩
  refine⟨a,d,bet,_,h1.trans y,(TR.mono A X.tr),⟨N,hN⟩,fun k _=>⟨(g.2 k).1,(g.2 k).2⟩,bKx g.1.symm,fun k K Y=>by rw[g.1]at Y;omega,E,hold⟩
 | true=>
  simp only[if_true]at q
  rcases X.own rfl with ⟨t,M,j'⟩|⟨M,sz,cs,id,len,cap,blk,al,tl,k',gt,g3,g4,Z,g6,g7,g8,g9,l'⟩
  ·simp only[nN,M,Option.some.injEq,Prod.mk.injEq]at q
   obtain⟨rfl,rfl⟩:=q
   have y:=u.call (st':=dS st d) (F':=fun id=>F1 id\/F' id) (fun id h=> .inl h) (fun id h=>h.elim .inl fun h=>(r id h).elim (fun h=> .inl h.1) .inr) hold rfl rfl E
   have A:Sb d.heap eG eJ (fun i=>F' i/\(dN l st).nxt.nat<=i.nat) d.heap bet (KP s1 bet (fun x=>φ x\/(st.nxt.nat<=x/\x<d.nxt.nat))) (FP (fun id=>F1 id\/F' id) (fun x=>φ x\/(st.nxt.nat<=x/\x<d.nxt.nat))):=
    ⟨fun _ _=>rfl,fun id h=>⟨.inr h.1,(r id h.1).elim (fun h=> .inl h.2) .inr⟩,fun k o=>o.elim,fun k o=>o.elim⟩
   exact⟨a,d,bet,_,h1.trans y,j'.mono A,⟨N,hN⟩,fun k _=>⟨(g.2 k).1,(g.2 k).2⟩,bKx g.1.symm,fun k K Y=>by rw[g.1]at Y;omega,E,hold⟩
  have Z:st.nxt.nat<=id.nat:=Z
  have a':cs.length%sz=0:=by rw[←g3];exact Nat.mul_mod_left _ _
  obtain⟨rfl,b'⟩:=aOU k' M g4 a' q
  ·skip
   have y:=u.call (st':=dS st d) (F':=fun i=>F1 i\/(F' i/\i≠id)) (fun i h=> .inl h) (fun i h=>h.elim .inl fun h=>(r i h.1).elim (fun h=> .inl h.1) .inr) hold rfl rfl E
   have A:Sb d.heap eG eJ (fun i=>F' i/\i≠id) d.heap bet s1.dom (fun i=>F1 i\/(F' i/\i≠id)):=⟨fun _ _=>rfl,fun i h=> .inr h,fun k o=>o.elim,fun k o=>o.elim⟩
   have O:¬(F1 id\/(F' id/\id≠id)):=fun h=>h.elim (fun h=>by have:=u.lt id h;omega) fun h=>h.2 rfl
   have m':∀k,k<s1.nxt->(bet k).1≠id:=fun k o e=>by have:=(u.rng k o).2;rw[e]at this;omega
   have n':=y.inv.adopt (id:=id) (blk:=blk) (cs:=cs) O m' (bIO u.low Z) g6 g7 (g9.mono A)
   have c':cs.length/sz=len:=by rw[←g3,bK2 _ g4]
   have G:(gP bet s1.nxt (id,blk.cells.length) s1.nxt)=(id,blk.cells.length):=iN _ _ _
   refine⟨a,d,_,_,(h1.trans y).trans n', ?_,⟨N,hN⟩,fun k o=> ?_,bIO (bKx g.1.symm) (Nat.le_succ _),fun k K Y=> ?_,E,hold⟩
   ·rw[c']at b'
    have:=TR.ow (h:=d.heap) (bet:=gP bet s1.nxt (id,blk.cells.length)) (nx:=KP (s1.new cs) (gP bet s1.nxt (id,blk.cells.length)) (fun x=>φ x\/(st.nxt.nat<=x/\x<d.nxt.nat))) (F:=FP (fun i=>F1 i\/(F' i/\i≠id)) (fun x=>φ x\/(st.nxt.nat<=x/\x<d.nxt.nat))) (k:=s1.nxt) (off:=0) (len:=len) (cap:=cap) (sz:=sz)
     ⟨bIZ _,by rw[G];exact .inr ⟨Z,g6⟩⟩ (fun c hc=>by rw[G];have:=l' c hc;exact⟨this.1,by show 0+c*sz=blk.cells.length;omega⟩)
    rw[G]at this
    rcases b' with ⟨rfl,T⟩|⟨rfl,T⟩
    ·rw[T];exact this
    ·rw[T]
     exact .tp (.cons this (gt.mono ⟨fun _ _=>rfl,fun i h=>⟨.inr h,(r i h.1).elim (fun h=> .inl h.2) .inr⟩,fun k o=>o.elim,fun k o=>o.elim⟩))
   ·have L:k≠s1.nxt:=by rw[g.1];omega
    have:(s1.new cs).ob k=s1.ob k:=if_neg L
    rw[this]
    exact⟨(g.2 k).1,(g.2 k).2⟩
   ·obtain rfl:k=s1.nxt:=by rw[g.1];have:k<s1.nxt+1:=Y;rw[g.1]at this;omega
    refine⟨by rw[G];exact Z,blk,by rw[G];exact g7,by rw[G], ?_⟩
    have o':((s1.new cs).ob s1.nxt).cs=cs:=by show(if s1.nxt=s1.nxt then(⟨0,cs⟩:Ob)else s1.ob s1.nxt).cs=cs;rw[if_pos rfl]
    rw[o']
    exact g9.mono ⟨fun _ _=>rfl,fun i h=>⟨.inr h,(r i h.1).elim (fun h=> .inl h.2) .inr⟩,fun k o=>o.elim,fun k o=>o.elim⟩
end
end
section
theorem aMQ{p:Nat×Nat}:∀(us:List Bool) (rs:List dI) (b:List (Nat×Nat)),p∈cF us rs b->p∈b\/∃(k:Nat) (r:dI),us[k]? =some true/\rs[k]? =some r/\(p∈r.wr\/(p=(r.n0,r.n1)/\r.n0<r.n1))
 | [],rs,b,h=> .inl h
 |u::us,[],b,h=> .inl h
 | u ::us,r::rs,b,h=>by
  have h:p∈(Bool.rec (cF us rs b) (wB r (cF us rs b)) u:List (Nat×Nat)):=h
  have ih:=aMQ (p:=p) us rs b
  have lift:(p∈b\/∃(k:Nat) (r:dI),us[k]? =some true/\rs[k]? =some r/\(p∈r.wr\/(p=(r.n0,r.n1)/\r.n0<r.n1)))->p∈b\/∃(k:Nat) (a:dI),(u::us)[k]? =some true/\(r::rs)[k]? =some a/\(p∈a.wr\/(p=(a.n0,a.n1)/\a.n0<a.n1)):=by
   rintro(h|⟨k,a,h1,h2,g⟩)
   ·exact .inl h
   ·exact .inr ⟨k+1,a,by simpa using h1,by simpa using h2,g⟩
  cases u with
  |false=>exact lift (ih h)
  | true=>
   have h:p∈qS r.wr (Bool.rec ((r.n0,r.n1)::cF us rs b) (cF us rs b) (Nat.ble r.n1 r.n0)):=h
   rw[uV,bJE]at h
   rcases h with h|h
   ·exact .inr ⟨0,r,rfl,rfl,.inl h⟩
   ·cases c:Nat.ble r.n1 r.n0 with
    |true=>rw[c]at h;exact lift (ih h)
    | false=>
     rw[c]at h
     rcases bJ4.1 h with rfl|h
     ·refine .inr ⟨0,r,rfl,rfl,.inr ⟨rfl, ?_⟩⟩
      rcases bIT r.n0 r.n1 with h1|h1
      ·exact h1
      ·rw[eK h1]at c;cases c
     ·exact lift (ih h)
theorem aJA{x:Id}:∀(us:List Bool) (rs:List dI),(∀(k:Nat) (r:dI),us[k]? =some true->rs[k]? =some r->x.nat<r.n0/\r.wild=false\/r.n0<=x.nat/\r.n1<=x.nat)->oK x us rs=true
 | [],rs,_=>rfl
 |u::us,[],_=>rfl
 | u ::us,r::rs,h=>by
  have ih:=aJA us rs fun k a h1 h2=>h (k+1) a (by simpa using h1) (by simpa using h2)
  show(Bool.rec (oK x us rs) (Bool.rec false (oK x us rs) (aAG x r)) u:Bool)=true
  cases u with
  |false=>exact ih
  | true=>
   have:aAG x r=true:=by
    unfold aAG
    rcases h 0 r rfl rfl with ⟨h1,h2⟩|⟨h1,h2⟩
    ·rw[h2,eK (show Nat.succ x.nat<=r.n0 from h1)]
    ·cases c:Nat.ble (Nat.succ x.nat) r.n0 with
     |true=>have:=bIU c;omega
     |false=>exact eK h2
   rw[this];exact ih
theorem aQx{n:Nat}:∀(us:List Bool) (rs:List dI),(∀(k:Nat) (r:dI),us[k]? =some true->rs[k]? =some r->r.n0<=n\/mI n r.hid=true)->qR n us rs=true
 | [],rs,_=>rfl
 |u::us,[],_=>rfl
 | u::us,r::rs,h=>by
  have ih:=aQx us rs fun k a h1 h2=>h (k+1) a (by simpa using h1) (by simpa using h2)
  show(Bool.rec (qR n us rs) (Bool.rec (Bool.rec false (qR n us rs) (mI n r.hid)) (qR n us rs) (Nat.ble r.n0 n)) u:Bool)=true
  cases u with
  |false=>exact ih
  | true=>
   cases c:Nat.ble r.n0 n with
   |true=>exact ih
   |false=>
    rcases h 0 r rfl rfl with h1|h1
    ·rw[eK h1]at c;cases c
    ·rw[h1];exact ih
theorem aPx{h0 h1:Tr}:∀(us:List Bool) (rs:List dI),(∀(k:Nat) (r:dI),us[k]? =some true->rs[k]? =some r->r.rd=none)->kY h0 h1 us rs=true
 | [],rs,_=>rfl
 |u::us,[],_=>rfl
 |u::us,r::rs,h=>by
  have ih:=aPx (h0:=h0) (h1:=h1) us rs fun k a h1 h2=>h (k+1) a (by simpa using h1) (by simpa using h2)
  show(Bool.rec (kY h0 h1 us rs) (Bool.rec (kY h0 h1 us rs) (Option.rec (kY h0 h1 us rs) (fun x=>Bool.rec false (kY h0 h1 us rs) (sC (Tr.find x h0) (Tr.find x h1))) r.rd) true) u:Bool)=true
  cases u with
  |false=>exact ih
  |true=>rw[h 0 r rfl rfl];exact ih
theorem aA9{f:VR->Bool}:∀(us:List Bool) (l:List VR),(jI us l).all f=true->∀(k:Nat) (x:VR),us[k]? =some true->l[k]? =some x->f x=true
 | [],l,_,k,x,h1,_=>by simp at h1
 |u::us,[],_,k,x,_,h2=>by simp at h2
 | u::us,y::l,h,k,x,h1,h2=>by
  unfold jI at h
  cases k with
  |zero=>
   simp only[bLL,Option.some.injEq]at h1 h2
   subst h1 h2
   simp only[if_true,bJN,bIN]at h
   exact h.1
  |succ k=>
   simp only[bKy]at h1 h2
   refine aA9 us l ?_ k x h1 h2
   cases u with
   |false=>simpa using h
   |true=>simp only[if_true,bJN,bIN]at h;exact h.2
theorem rL{n:Nat}:∀ {l:List (Nat×Nat)} {p:Nat×Nat},p∈l->p.1<=n->n<p.2->mI n l=true
 | q::l,p,h,h1,h2=>by
  show(Bool.rec (mI n l) (Bool.rec true (mI n l) (Nat.ble q.2 n)) (Nat.ble q.1 n):Bool)=true
  rcases bJ4.1 h with rfl|h
  ·rw[eK h1,aBh h2]
  ·have ih:=rL h h1 h2
   cases Nat.ble q.1 n with
   |false=>exact ih
   |true=>cases Nat.ble q.2 n with
    |false=>rfl
    |true=>exact ih
theorem aI7{V:aQ}:∀(d:List Nat) (L:aQ) (t:Nat),(dP d L).look V t=if d.elem t then none else L.look V t
 | [],L,t=>rfl
 |s::d,L,t=>by
  show(if s=t then none else(dP d L).look V t)=_
  rw[aI7 d L t,bMb]
  by_cases e:t=s
  ·subst e;simp
  ·rw[if_neg (fun h=>e h.symm),show(t==s)=false from by simpa using e]
theorem aCI{p:Nat×Nat}:∀(us:List Bool) (rs:List dI) (b:List (Nat×Nat)),p∈b->p∈cF us rs b
 | [],rs,b,h=>h
 |u::us,[],b,h=>h
 | u::us,r::rs,b,h=>by
  have ih:=aCI us rs b h
  show p∈(Bool.rec (cF us rs b) (wB r (cF us rs b)) u:List (Nat×Nat))
  cases u with
  |false=>exact ih
  |true=>
   show p∈qS r.wr (Bool.rec ((r.n0,r.n1)::cF us rs b) (cF us rs b) (Nat.ble r.n1 r.n0))
   rw[uV,bJE]
   right
   cases Nat.ble r.n1 r.n0 with
   |true=>exact ih
   |false=>exact .tail _ ih
end
section
def gA(c:List bQg)(N:Nat->Nat)(i x:Nat):Prop:=x<N 0\/∃m,nG c m i/\N m<=x/\x<N (m+1)
def FN(c:List bQg)(N:Nat->Nat)(j x:Nat):Prop:=x<N 0\/∃m,(m=j\/nG c m j)/\N m<=x/\x<N (m+1)
def jL(N:Nat->Nat)(x:Nat):Prop:=x<N 0
theorem gA.of_old{c:List bQg}{N:Nat->Nat}{i x:Nat}(h:jL N x):gA c N i x:= .inl h
theorem FN.seen{c:List bQg}(u:eS c=true){N:Nat->Nat}{i j x:Nat}(D:i<c.length)(h:nG c j i)(k:FN c N j x):gA c N i x:=
 k.imp id fun⟨m,h1,h2⟩=>⟨m,h1.elim (fun e=>e ▸ h) (aVA u D h),h2⟩
def RX(s:VS)(bet:Nat->Id×Nat)(F:Id->Prop)(R:dI):VR->Prop
 | .q=>R.wr=[]/\R.wild=false/\R.rd=none/\∀x,x<R.n0->mI x R.hid=true
 | .ld k=>R.wr=[]/\R.wild=false/\∃id:Id,R.rd=some id/\(∀l,k=some l->l<s.nxt/\id=(bet l).1)/\(k=none->F id)/\∀x,x<R.n0->x≠id.nat->mI x R.hid=true
 | .cl ad=>R.wr=[]/\R.wild=false/\R.rd=none/\∀k∈ad,mI (bet k).1.nat R.hid=true
 | .tt=>R.wr=[]/\R.rd=none
 | .st k ad=>k<s.nxt/\R.wr=[((bet k).1.nat,(bet k).1.nat+1)]/\R.rd=none/\∀k∈ad,mI (bet k).1.nat R.hid=true
def VR.within(n:Nat):VR->Prop
 | .cl ad=>∀k∈ad,k<n
 | .st _ ad=>∀k∈ad,k<n
 |_=>True
theorem RX.mono{s s':VS}{bet bet':Nat->Id×Nat}{F F':Id->Prop}{R:dI}{x:VR}(hn:s.nxt<=s'.nxt)(A:∀k,k<s.nxt->bet' k=bet k)(B:∀id,F id->F' id)(H:x.within s.nxt)(h:RX s bet F R x):RX s' bet' F' R x:=by
 cases x with
 |q=>exact h
 |tt=>exact h
 |ld k=>
  obtain⟨h1,h2,id,I,J,K,M⟩:=h
  exact⟨h1,h2,id,I,fun l e=>by obtain⟨g1,g2⟩:=J l e;exact⟨bIP g1 hn,by rw[A l g1];exact g2⟩,fun e=>B _ (K e),M⟩
 |cl ad=>exact⟨h.1,h.2.1,h.2.2.1,fun k p=>by rw[A k (H k p)];exact h.2.2.2 k p⟩
 |st k ad=>
  refine⟨bIP h.1 hn,by rw[A k h.1];exact h.2.1,h.2.2.1,fun l p=>by rw[A l (H l p)];exact h.2.2.2 l p⟩
structure OI(c:List bQg)(n0:Nat)(f:St)(w:VS)(y:Nat->Id×Nat)(F0:Id->Prop)(V:aQ)(i:Nat)(N:Nat->Nat)(st:St)(s:VS)(bet:Nat->Id×Nat)(F:Id->Prop)(L:aQ)(r:bB)(b:VO)(recs:List dI):Prop where
 step:cY n0 f w y F0 st s bet F
 n_0:N 0=f.nxt.nat
 low0:n0<=f.nxt.nat
 n_i:N i=st.nxt.nat
 mono:∀j,j<i->N j<=N (j+1)
 slot:∀t v,r t=some v->∃a,L.look V t=some a/\((t ∉ b.new/\TR st.heap bet (KP s bet (jL N)) (FP F (jL N)) a v)\/
  t∈b.new/\∃j,j<i/\(∃o,c[j]? =some o/\o.dst=some t)/\TR st.heap bet (KP s bet (FN c N j)) (FP F (FN c N j)) a v)
 has:rU L (c.take i)
 cln:b.clean=true->∀k,k<s.nxt->(s.ob k).how≠2->∃φ,(((bet k).1.nat<N 0/\φ=jL N)\/∃j,j<i/\N j<=(bet k).1.nat/\(bet k).1.nat<N (j+1)/\φ=FN c N j)/\
  ∃blk,Tr.find (bet k).1 st.heap=some blk/\blk.cells.length=(bet k).2/\bO st.heap bet (KP s bet φ) (FP F φ) blk.cells (s.ob k).cs
 len:recs.length=i
 blen:b.recs.length=i
 note:∀j,j<i->∃R x,recs[i-1-j]? =some R/\b.recs[i-1-j]? =some x/\R.n0=N j/\R.n1=N (j+1)/\x.within s.nxt/\RX s bet F R x/\(b.clean=true->∀k ad,x≠ .st k ad)
section
variable {c:List bQg}{n0:Nat}{f:St}{w:VS}{y:Nat->Id×Nat}{F0:Id->Prop}{V:aQ}{i:Nat}{N:Nat->Nat}{st:St}{s:VS}{bet:Nat->Id×Nat}{F:Id->Prop}{L:aQ}{r:bB}{b:VO}{recs:List dI}
theorem OI.le(h:OI c n0 f w y F0 V i N st s bet F L r b recs):∀ {j m:Nat},j<=m->m<=i->N j<=N m:=by
 intro j m O T
 induction m with
 |zero=>
  have e:j=0:=by omega
  rw[e];exact bIK _
 |succ m ih=>
  by_cases e:j=m+1
  ·rw[e];exact bIK _
  ·exact bIO (ih (by omega) (by omega)) (h.mono m (by omega))
theorem lZ{φ ψ:Nat->Prop}(h:∀x,φ x->ψ x)(hh:Tr):Sb hh bet (KP s bet φ) (FP F φ) hh bet (KP s bet ψ) (FP F ψ):=⟨fun _ _=>rfl,fun _ B=>⟨B.1,h _ B.2⟩,fun _ p=>⟨p.1,h _ p.2⟩,fun _ _=>rfl⟩
abbrev bF(c:List bQg)(i:Nat):gM:=gY true c (dH c []) i
theorem OI.seen(h:OI c n0 f w y F0 V i N st s bet F L r b recs)(u:eS c=true)(D:i<c.length):ER st.heap bet (KP s bet (gA c N i)) (FP F (gA c N i)) (dP (bF c i).del L) V (dZ (bF c i).del r):=by
 intro t v g
 unfold dZ at g
 split at g
 ·cases g
 ·next C=>
  obtain⟨a,h1,h2⟩:=h.slot t v g
  refine⟨a,by rw[aI7,if_neg C];exact h1, ?_⟩
  rcases h2 with ⟨_,h2⟩|⟨_,j,P,⟨o,Q,z⟩,h2⟩
  ·exact h2.mono (lZ (fun x hx=>gA.of_old hx) _)
  ·have E:nG c j i:=by
    rw[←aMc P]
    cases S:gB (dH c []) j i with
    |true=>rfl
    |false=>exact absurd (bJP.2 (aJq (ext:=true) Q (by omega) S z)) C
   exact h2.mono (lZ (fun x hx=>FN.seen u D E hx) _)
theorem OI.olds(h:OI c n0 f w y F0 V i N st s bet F L r b recs)(d:List Nat):ER st.heap bet (KP s bet (jL N)) (FP F (jL N)) (dP d L) V (dZ b.new (dZ d r)):=by
 intro t v g
 unfold dZ at g
 split at g
 ·cases g
 ·next hn=>
  split at g
  ·cases g
  ·next C=>
   obtain⟨a,h1,h2⟩:=h.slot t v g
   refine⟨a,by rw[aI7,if_neg C];exact h1, ?_⟩
   rcases h2 with ⟨_,h2⟩|⟨G,_⟩
   ·exact h2
   ·exact absurd (bJP.2 G) hn
end
end
section
def Nx(N:Nat->Nat)(i n:Nat):Nat->Nat:=fun j=>if j<=i then N j else n
theorem lL{N:Nat->Nat}{i n j:Nat}(h:j<=i):Nx N i n j=N j:=if_pos h
theorem aDk{N:Nat->Nat}{i n:Nat}:Nx N i n (i+1)=n:=if_neg (by omega)
section
variable {f:List bQg}{n0:Nat}{K:St}{s0:VS}{b0:Nat->Id×Nat}{F0:Id->Prop}{V:aQ}{i:Nat}{N:Nat->Nat}{st st':St}{s s':VS}{bet bet':Nat->Id×Nat}{F F':Id->Prop}{L:aQ}{r:bB}{b b':VO}{recs:List dI}
theorem aA6{n x:Nat}(h:jL N x):jL (Nx N i n) x:=by unfold jL;rw[lL (bIR _)];exact h
theorem aPO(u:eS f=true){n j x:Nat}(J:j<i)(U:i<=f.length)(h:FN f N j x):FN f (Nx N i n) j x:=by
 rcases h with h|⟨m,hm,h1,h2⟩
 ·exact .inl (aA6 h)
 ·have W:m<=j:=by
   rcases hm with rfl|hm
   ·exact bIK _
   ·exact bJg (aFj u (by omega) hm)
  exact .inr ⟨m,hm,by rw[lL (by omega)];exact h1,by rw[lL (by omega)];exact h2⟩
theorem aCM(u:eS f=true){n x:Nat}(U:i<f.length)(h:gA f N i x):FN f (Nx N i n) i x:=by
 rcases h with h|⟨m,hm,h1,h2⟩
 ·exact .inl (aA6 h)
 ·have W:=aFj u U hm
  exact .inr ⟨m,.inr hm,by rw[lL (by omega)];exact h1,by rw[lL (by omega)];exact h2⟩
theorem aIa{n x:Nat}(h1:N i<=x)(h2:x<n):FN f (Nx N i n) i x:= .inr ⟨i,.inl rfl,by rw[lL (bIK _)];exact h1,by rw[aDk];exact h2⟩
theorem aC8{φ ψ:Nat->Prop}(h:cY n0 st s bet F st' s' bet' F')(hφ:∀x,φ x->ψ x):Sb st.heap bet (KP s bet φ) (FP F φ) st'.heap bet' (KP s' bet' ψ) (FP F' ψ):=
 ⟨fun id Q=>h.sb.fix id Q.1,fun id Q=>⟨h.sb.sub id Q.1,hφ _ Q.2⟩,fun k z=>⟨h.sb.nle k z.1,by rw[h.sb.beq k z.1];exact hφ _ z.2⟩,fun k z=>h.sb.beq k z.1⟩
def aGy(φ:Nat->Prop)(st st':St)(s s':VS)(bet':Nat->Id×Nat)(F':Id->Prop):Prop:=
 ∀k,s.nxt<=k->k<s'.nxt->(s'.ob k).how≠2->st.nxt.nat<=(bet' k).1.nat/\∃blk,Tr.find (bet' k).1 st'.heap=some blk/\blk.cells.length=(bet' k).2/\bO st'.heap bet' (KP s' bet' φ) (FP F' φ) blk.cells (s'.ob k).cs
def aGE(st st':St)(s s':VS)(bet:Nat->Id×Nat):Prop:=
 ∀k,k<s.nxt->(s'.ob k).how≠2->(s.ob k).how≠2/\(s'.ob k).cs=(s.ob k).cs/\Tr.find (bet k).1 st'.heap=Tr.find (bet k).1 st.heap
theorem OI.next(h:OI f n0 K s0 b0 F0 V i N st s bet F L r b recs)(u:eS f=true){o:bQg}(X:f[i]? =some o){v:TV}{a:AV}{R:dI}{x:VR}(g:cY n0 st s bet F st' s' bet' F')
  (hv:(b'.new=b.new/\TR st'.heap bet' (KP s' bet' (jL N)) (FP F' (jL N)) a v)\/(b'.new=o.dst.toList++b.new/\TR st'.heap bet' (KP s' bet' (FN f (Nx N i st'.nxt.nat) i)) (FP F' (FN f (Nx N i st'.nxt.nat) i)) a v))
  (Y:b'.clean=true->b.clean=true/\aGE st st' s s' bet/\aGy (FN f (Nx N i st'.nxt.nat) i) st st' s s' bet' F')
  (A:b'.recs=x::b.recs) (h0:R.n0=st.nxt.nat) (h1:R.n1=st'.nxt.nat) (Z:x.within s'.nxt) (hx:RX s' bet' F' R x) (a':b'.clean=true->∀k ad,x≠ .st k ad) (M:b'.clean=true->b.clean=true):
  OI f n0 K s0 b0 F0 V (i+1) (Nx N i st'.nxt.nat) st' s' bet' F' (fV o.dst a L) (iJ o.dst v r) b' (R::recs):=by
 have U:i<f.length:=(bJs.1 X).1
 refine⟨h.step.trans g,by rw[lL (bIR _)];exact h.n_0,h.low0,aDk,fun j J=> ?_,fun t w B=> ?_, ?_,fun hc k z hh=> ?_,by simp [h.len],by rw[A];simp [h.blen],fun j J=> ?_⟩
 ·by_cases e:j=i
  ·subst e;rw[lL (bIK _),aDk,h.n_i];exact g.nx
  ·rw[lL (by omega),lL (by omega)];exact h.mono j (by omega)
 ·by_cases e:o.dst=some t
  ·rw[e]at B ⊢
   have Z:w=v:=by simp only[iJ,bB.upd,if_true,Option.some.injEq]at B;exact B.symm
   subst Z
   refine⟨a,by show(if t=t then some a else L.look V t)=some a;rw[if_pos rfl], ?_⟩
   have O:∀ {φ:Nat->Prop},(∀y,φ y->FN f (Nx N i st'.nxt.nat) i y)->TR st'.heap bet' (KP s' bet' φ) (FP F' φ) a w->∃j,j<i+1/\(∃o,f[j]? =some o/\o.dst=some t)/\TR st'.heap bet' (KP s' bet' (FN f (Nx N i st'.nxt.nat) j)) (FP F' (FN f (Nx N i st'.nxt.nat) j)) a w:=fun p ha=>⟨i,by omega,⟨o,X,e⟩,ha.mono (lZ p _)⟩
   rcases hv with ⟨l,h2⟩|⟨l,h2⟩
   ·by_cases P:t∈b.new
    ·exact .inr ⟨by rw[l];exact P,O (fun y p=> .inl (aA6 p)) h2⟩
    ·exact .inl ⟨by rw[l];exact P,h2.mono (lZ (fun y p=>aA6 p) _)⟩
   ·exact .inr ⟨by rw[l,e];simp,O (fun y p=>p) h2⟩
  ·have B:r t=some w:=by
    cases D:o.dst with
    |none=>rw[D]at B;exact B
    |some d=>
     rw[D]at B e
     have e:t≠d:=fun h=>e (by rw[h])
     simpa only[iJ,bB.upd,if_neg e]using B
   obtain⟨c,g1,g2⟩:=h.slot t w B
   refine⟨c, ?_, ?_⟩
   ·cases D:o.dst with
    |none=>exact g1
    |some d=>
     rw[D]at e
     have e:d≠t:=fun h=>e (by rw[h])
     show(if d=t then some a else L.look V t)=some c
     rw[if_neg e];exact g1
   ·have E:t∈b'.new↔t∈b.new:=by
     rcases hv with ⟨l,_⟩|⟨l,_⟩
     ·rw[l]
     ·rw[l]
      cases D:o.dst with
      |none=>simp
      |some d=>
       rw[D]at e
       have e:t≠d:=fun h=>e (by rw[h])
       simp [e]
    rcases g2 with ⟨k1,k2⟩|⟨k1,j,J,k2,k3⟩
    ·exact .inl ⟨fun h=>k1 (E.1 h),k2.mono (aC8 g fun y p=>aA6 p)⟩
    ·exact .inr ⟨E.2 k1,j,by omega,k2,k3.mono (aC8 g fun y p=>aPO u J (by omega) p)⟩
 ·have:=h.has.put o a
  intro o' G d D
  refine this o' ?_ d D
  rw[List.take_add_one,X]at G
  simp only[Option.toList_some,bJE,bJZ]at G
  rcases G with h|h
  ·exact .tail _ h
  ·rw[h];exact .head _
 ·obtain⟨c1,c2,c3⟩:=Y hc
  by_cases H:k<s.nxt
  ·obtain⟨d1,d2,d3⟩:=c2 k H hh
   obtain⟨φ,hφ,blk,l,S,T⟩:=h.cln c1 k H d1
   have hb:bet' k=bet k:=g.sb.beq k H
   rw[hb,d2]
   rcases hφ with ⟨f1,rfl⟩|⟨j,J,f1,f2,rfl⟩
   ·refine⟨_,.inl ⟨by rw[lL (bIR _)];exact f1,rfl⟩,blk,d3.trans l,S,T.mono (aC8 g fun y p=>aA6 p)⟩
   ·refine⟨_,.inr ⟨j,by omega,by rw[lL (by omega)];exact f1,by rw[lL (by omega)];exact f2,rfl⟩,blk,d3.trans l,S,T.mono (aC8 g fun y p=>aPO u J (by omega) p)⟩
  ·obtain⟨d1,blk,l,S,T⟩:=c3 k (by omega) z hh
   have:=(g.inv.rng k z).2
   exact⟨_,.inr ⟨i,by omega,by rw[lL (bIK _),h.n_i];exact d1,by rw[aDk];exact this,rfl⟩,blk,l,S,T⟩
 ·by_cases e:j=i
  ·subst e
   refine⟨R,x,by simp,by rw[A];simp,by rw[lL (bIK _),h.n_i,h0],by rw[aDk,h1],Z,hx,a'⟩
  ·obtain⟨R',x',g1,g2,g3,g4,g5,g6,g7⟩:=h.note j (by omega)
   have l:i+1-1-j=(i-1-j)+1:=by omega
   have c':x'.within s'.nxt:=by
    have C:s.nxt<=s'.nxt:=bKP fun I=>by
     have:=g.sb.nle s'.nxt I
     exact bJq _ this
    cases x' with
    |cl ad=>exact fun k z=>bIP (g5 k z) C
    |st _ ad=>exact fun k z=>bIP (g5 k z) C
    |q=>trivial
    |ld _=>trivial
    |tt=>trivial
   have C:s.nxt<=s'.nxt:=bKP fun I=>by
    have:=g.sb.nle s'.nxt I
    exact bJq _ this
   refine⟨R',x',by rw[l,bKy];exact g1,by rw[A,l,bKy];exact g2,by rw[g3,lL (by omega)],by rw[g4,lL (by omega)],c',RX.mono C g.sb.beq g.sb.sub g5 g6,fun hc=>g7 (M hc)⟩
end
end
section
theorem aI5(st:St)(l:List (Nat×Nat)):dS st (dN l st)=st:=by cases st;rfl
theorem aYO(st:St)(l:List (Nat×Nat)):dS st (eD l st)=st:=by cases st;rfl
theorem aWj(st:St)(l:List (Nat×Nat))(b:cH):dS st ((dN l st).new b)=st.new b:=by cases st;rfl
theorem aVZ(st:St)(l:List (Nat×Nat))(b:cH):dS st ((eD l st).new b)=st.new b:=by cases st;rfl
theorem aBK(st:St)(l:List (Nat×Nat)):(dN l st).nxt=st.nxt:=by cases st;rfl
theorem aDl(st:St)(l:List (Nat×Nat)):(eD l st).nxt=st.nxt:=by cases st;rfl
theorem aIv(st:St)(l:List (Nat×Nat)):(dN l st).heap=st.heap:=by cases st;rfl
theorem aBr(st:St)(l:List (Nat×Nat)):(eD l st).heap=st.heap:=by cases st;rfl
theorem bHM{c:List bQg}{i k:Nat}(w:(bF c i).un[k]? =some true):k<i/\gB (dH c []) (i-1-k) i=false:=by
 have w:((bJh i).reverse.map fun j=> !gB (dH c []) j i)[k]? =some true:=w
 rw[List.getElem?_map,bIM]at w
 obtain⟨j,h1,h2⟩:=w
 obtain⟨d,g⟩:=bJs.1 h1
 rw[List.length_reverse,bLF]at d
 rw[List.getElem_reverse,List.getElem_range,bLF]at g
 subst g
 exact⟨d,by simpa using h2⟩
section
variable {c:List bQg}{n0:Nat}{n:St}{z:VS}{A:Nat->Id×Nat}{F0:Id->Prop}{V:aQ}{i:Nat}{N:Nat->Nat}{st st':St}{s s':VS}{bet bet':Nat->Id×Nat}{F F':Id->Prop}{L:aQ}{r:bB}{b b':VO}{recs:List dI}
theorem OI.at(h:OI c n0 n z A F0 V i N st s bet F L r b recs){k:Nat}{R:dI}(w:(bF c i).un[k]? =some true)(O:recs[k]? =some R):
  ∃(j:Nat) (x:VR),j<i/\k=i-1-j/\¬nG c j i/\b.recs[k]? =some x/\R.n0=N j/\R.n1=N (j+1)/\x.within s.nxt/\RX s bet F R x/\(b.clean=true->∀k ad,x≠ .st k ad):=by
 obtain⟨hk,H⟩:=bHM w
 obtain⟨R',x,g1,g2,g3⟩:=h.note (i-1-k) (by omega)
 have e:i-1-(i-1-k)=k:=by omega
 rw[e]at g1 g2
 rw[O]at g1
 cases g1
 exact⟨i-1-k,x,by omega,e.symm,fun B=>(by rw[(aMc (by omega)).2 B]at H;cases H),g2,g3⟩
theorem aHW(h:OI c n0 n z A F0 V i N st s bet F L r b recs)(f:eS c=true)(o:i<c.length){j x:Nat}(Y:j<i)(B:¬nG c j i)(hs:gA c N i x):¬(N j<=x/\x<N (j+1)):=by
 rintro⟨h1,h2⟩
 rcases hs with hs|⟨m,I,d,g⟩
 ·have:=h.le (bIR j) (by omega)
  omega
 ·have P:=aFj f o I
  rcases Nat.lt_trichotomy m j with e|e|e
  ·have:=h.le (show m+1<=j from e) (by omega)
   omega
  ·subst e;exact B I
  ·have:=h.le (show j+1<=m from e) (by omega)
   omega
theorem OI.hidden(h:OI c n0 n z A F0 V i N st s bet F L r b recs)(f:eS c=true)(o:i<c.length){ah:List (Nat×Nat)}{p:Nat×Nat}(hp:p∈cF (bF c i).un recs ah):
  p∈ah\/(∀x,gA c N i x->¬(p.1<=x/\x<p.2))\/∃(k:Nat) (R:dI) (x:VR),(bF c i).un[k]? =some true/\recs[k]? =some R/\b.recs[k]? =some x/\p∈R.wr/\RX s bet F R x/\(b.clean=true->∀k ad,x≠ .st k ad):=by
 rcases aMQ _ _ _ hp with hp|⟨k,R,h1,h2,d⟩
 ·exact .inl hp
 ·obtain⟨j,x,g1,g2,g3,g4,J,u,Q,S,T⟩:=h.at h1 h2
  rcases d with d|⟨rfl,d⟩
  ·exact .inr (.inr ⟨k,R,x,h1,h2,g4,d,S,T⟩)
  ·exact .inr (.inl fun x hx=>by simp only[J,u];exact aHW h f o g1 g3 hx)
theorem aOX{R:dI}{x:VR}(h:RX s bet F R x)(hc:∀k ad,x≠ .st k ad):R.wr=[]:=by
 cases x with
 |st k ad=>exact absurd rfl (hc k ad)
 |q=>exact h.1
 |ld k=>exact h.1
 |cl ad=>exact h.1
 |tt=>exact h.1
theorem OI.hid_clean(h:OI c n0 n z A F0 V i N st s bet F L r b recs)(f:eS c=true)(o:i<c.length)(hc:b.clean=true){ah:List (Nat×Nat)}{p:Nat×Nat}(hp:p∈cF (bF c i).un recs ah):
  p∈ah\/(∀x,gA c N i x->¬(p.1<=x/\x<p.2)):=by
 rcases h.hidden f o hp with hp|hp|⟨k,R,x,h1,h2,d,g,C,K⟩
 ·exact .inl hp
 ·exact .inr hp
 ·rw[aOX C (K hc)]at g;cases g
theorem OI.hid_q(h:OI c n0 n z A F0 V i N st s bet F L r b recs)(f:eS c=true)(o:i<c.length)(hq:(jI (bF c i).un b.recs).all VR.isQ=true){ah:List (Nat×Nat)}{p:Nat×Nat}(hp:p∈cF (bF c i).un recs ah):
  p∈ah\/(∀x,gA c N i x->¬(p.1<=x/\x<p.2)):=by
 rcases h.hidden f o hp with hp|hp|⟨k,R,x,h1,h2,d,g,C,K⟩
 ·exact .inl hp
 ·exact .inr hp
 ·have:=aA9 _ _ hq k x h1 d
  rw[aOX C (fun k ad e=>by rw[e]at this;cases this)]at g;cases g
theorem OI.hid_bound(h:OI c n0 n z A F0 V i N st s bet F L r b recs){ah:List (Nat×Nat)}(D:∀p∈ah,p.2<=st.nxt.nat):∀p∈cF (bF c i).un recs ah,p.2<=st.nxt.nat:=by
 refine aLB _ _ _ (fun R U=> ?_) D
 obtain⟨k,hk,e⟩:=List.getElem_of_mem U
 obtain⟨R',x,g1,g2,g3,g4,J,u,Q⟩:=h.note (i-1-k) (by have:=h.len;omega)
 have W:i-1-(i-1-k)=k:=by have:=h.len;omega
 rw[W,List.getElem?_eq_getElem hk,e]at g1
 cases g1
 have E:N (i-1-k+1)<=st.nxt.nat:=by rw[←h.n_i];exact h.le (by have:=h.len;omega) (bIK _)
 refine⟨by rw[g4];exact E,fun p hp=> ?_⟩
 cases x with
 |st X ad=>
  obtain⟨k1,k2,_⟩:=u
  rw[k2]at hp
  rw[bJZ.1 hp]
  exact(h.step.inv.rng X k1).2
 |q=>rw[u.1]at hp;cases hp
 |ld k=>rw[u.1]at hp;cases hp
 |cl ad=>rw[u.1]at hp;cases hp
 |tt=>rw[u.1]at hp;cases hp
theorem aDJ{e:bB}(M:ER st.heap bet s.dom F .nil V e):∀ {l:List Nat} {ad:List Nat},uB e s l=some ad->∃ah,(∀k,rA l V k=k ah)/\(∀p∈ah,∃k∈ad,p=((bet k).1.nat,(bet k).1.nat+1))/\(∀k∈ad,k<s.nxt/\(s.ob k).how=0/\((bet k).1.nat,(bet k).1.nat+1)∈ah)
 | [],ad,q=>by cases q;exact⟨[],fun k=>rfl,fun p hp=>(by cases hp),fun k hk=>(by cases hk)⟩
 | t::l,ad,q=>by
  simp only[uB,bIL]at q
  obtain⟨v,h1,q⟩:=q
  obtain⟨a,B,ta⟩:=M t v h1
  cases ta<;>simp only at q<;>try (cases q;done)
  rename_i G off hk
  split at q
  ·next hc=>
   rw[bIM]at q
   obtain⟨ad',q,rfl⟩:=q
   obtain⟨ah,g1,g2,g3⟩:=aDJ M q
   refine⟨((bet G).1.nat,(bet G).1.nat+1)::ah,fun k=> ?_,fun p hp=> ?_,fun k hk=> ?_⟩
   ·show V.vget t (fun y=>lC y fun id _=>rA l V fun l=>k ((id.nat,Nat.succ id.nat)::l))=_
    rw[aQ.vget_eq B]
    show rA l V _=_
    rw[g1]
   ·rcases bJ4.1 hp with rfl|hp
    ·exact⟨G,.head _,rfl⟩
    ·obtain⟨k,d,g⟩:=g2 p hp;exact⟨k,.tail _ d,g⟩
   ·rcases bJ4.1 hk with rfl|hk
    ·exact⟨hc.1,hc.2,.head _⟩
    ·obtain⟨d,g,C⟩:=g3 k hk;exact⟨d,g,.tail _ C⟩
  ·cases q
end
end
section
section
variable {d:List bQg}{n0:Nat}{z:St}{G:VS}{H:Nat->Id×Nat}{F0:Id->Prop}{V:aQ}{i:Nat}{N:Nat->Nat}{st st':St}{s s':VS}{bet bet':Nat->Id×Nat}{F F':Id->Prop}{L:aQ}{r:bB}{b b':VO}{recs:List dI}{P:bQe}{pr:cM}{orc:cN}
theorem cY.nle(A:cY n0 st s bet F st' s' bet' F'):s.nxt<=s'.nxt:=bKP fun K=>bJq _ (A.sb.nle s'.nxt K)
theorem aXX{n m:Nat}{x:VR}(h:x.within n)(hn:n<=m):x.within m:=by
 cases x with
 |cl ad=>exact fun k O=>bIP (h k O) hn
 |st _ ad=>exact fun k O=>bIP (h k O) hn
 |q=>trivial
 |ld _=>trivial
 |tt=>trivial
theorem OI.next2(h:OI d n0 z G H F0 V i N st s bet F L r b recs)(u:eS d=true){o:bQg}(C:d[i]? =some o){v:TV}{a:AV}{R:dI}{x:VR}(A:cY n0 st s bet F st' s' bet' F')
  (Q:(b'.new=b.new/\TR st'.heap bet' (KP s' bet' (jL N)) (FP F' (jL N)) a v)\/(b'.new=o.dst.toList++b.new/\TR st'.heap bet' (KP s' bet' (FN d (Nx N i st'.nxt.nat) i)) (FP F' (FN d (Nx N i st'.nxt.nat) i)) a v))
  (T:b'.clean=true->b.clean=true/\aGE st st' s s' bet/\aGy (FN d (Nx N i st'.nxt.nat) i) st st' s s' bet' F')
  (J:b'.recs=x::b.recs) (h0:R.n0=st.nxt.nat) (h1:R.n1=st'.nxt.nat) (B:x.within s.nxt) (hx:RX s bet F R x) (D:b'.clean=true->∀k ad,x≠ .st k ad):
  OI d n0 z G H F0 V (i+1) (Nx N i st'.nxt.nat) st' s' bet' F' (fV o.dst a L) (iJ o.dst v r) b' (R::recs):=
 h.next u C A Q T J h0 h1 (aXX B A.nle) (RX.mono A.nle A.sb.beq A.sb.sub B hx) D fun hc=>(T hc).1
theorem aWi{op:Op}{rr:bB}{v:TV}(hq:lK op=true)(hm:aAu op=false)(q:bG P (dD orc) op rr s=some (v,s')):s'=s:=by
 cases op<;>first|(cases hq;done)|(cases hm;done)|skip
 case call c=>
  obtain⟨callee,args,l'⟩:=c
  cases callee with
  |invoke _ _=>cases hq
  |value g=>cases hq
  | builtin b=>
   simp only[bG,bIL]at q
   obtain⟨l,Z,q⟩:=q
   cases b<;>first|(cases hq;done)|skip
   all_goals
    simp only[jJ,bIM]at q
    obtain⟨y,e2,q⟩:=q
    cases q;rfl
 all_goals simp only[bG]at q
 case pick=>
  simp only[bIL]at q
  obtain⟨_,_,_,_,_,_,_,_,q⟩:=q
  cases q;rfl
 case makeFunc f a c=>
  cases f<;>first|(cases q;done)|skip
  simp only[bIL]at q
  obtain⟨_,_,_,_,q⟩:=q
  cases q;rfl
 case nilCheck=>
  simp only[bIL]at q
  obtain⟨_,_,q⟩:=q
  split at q<;>cases q<;>rfl
 case index=>
  simp only[bIL]at q
  obtain⟨_,_,_,_,_,_,q⟩:=q
  split at q
  ·split at q
   ·simp only[bIM]at q
    obtain⟨_,_,q⟩:=q
    cases q;rfl
   ·cases q
  ·cases q
 case extract=>
  simp only[bIL]at q
  obtain⟨_,_,q⟩:=q
  split at q
  ·simp only[bIM]at q
   obtain⟨_,_,q⟩:=q
   cases q;rfl
  ·cases q
 all_goals (try split at q)<;>(try (cases q;done))<;>simp only[bIL,bIM]at q
 all_goals first
  | (obtain⟨_,_,q⟩:=q;cases q;rfl)
  | (obtain⟨_,_,_,_,q⟩:=q;cases q;rfl)
  | (obtain⟨_,_,_,_,_,_,q⟩:=q;cases q;rfl)
  | (obtain⟨_,_,_,_,_,_,_,_,q⟩:=q;cases q;rfl)
  | (obtain⟨_,_,_,_,q⟩:=q;split at q<;>cases q;rfl)
  | (obtain⟨_,_,q⟩:=q;split at q<;>(try (cases q;done))<;>simp only[bIL]at q;obtain⟨_,_,q⟩:=q;split at q<;>(try (cases q;done))<;>simp only[bIM]at q;obtain⟨_,_,q⟩:=q;cases q;rfl)
theorem OI.quiet(h:OI d n0 z G H F0 V i N st s bet F L r b recs)(u:eS d=true){o:bQg}(C:d[i]? =some o){φ:Nat->Prop}{rr:bB}{v:TV}{x:VR}(he:ER st.heap bet (KP s bet φ) (FP F φ) (dP (bF d i).del L) V rr)
  (hq:lK o.op=true) (q:bG P (dD orc) o.op rr s=some (v,s')) (hb:(b'.new=b.new/\(∀y,φ y->jL N y)/\aAu o.op=false)\/(b'.new=o.dst.toList++b.new/\∀y,φ y->gA d N i y)) (T:b'.clean=b.clean) (J:b'.recs=x::b.recs) (B:x.within s.nxt) (D:∀k ad,x≠ .st k ad):
  ∃(bet':Nat->Id×Nat) (a:AV) (st':St),(∀R:dI,R.n0=st.nxt.nat->R.n1=st'.nxt.nat->RX s bet F R x->OI d n0 z G H F0 V (i+1) (Nx N i st'.nxt.nat) st' s' bet' F (fV o.dst a L) (iJ o.dst v r) b' (R::recs))/\
   ∃f:St->St,(∀ih stX k,stX.nxt=st.nxt->dB P pr o.op ih (dP (bF d i).del L) V stX k=k a (f stX))/\(∀l,dS st (f (dN l st))=st'/\dS st (f (eD l st))=st'/\(f (dN l st)).nxt=st'.nxt/\(f (eD l st)).nxt=st'.nxt/\(f (eD l st)).heap=st'.heap):=by
 have hi:i<d.length:=(bJs.1 C).1
 have Q:=h.step.inv
 have up:∀ {y:Nat},φ y->FN d (Nx N i st.nxt.nat) i y:=fun {y} E=>by
  rcases hb with ⟨_,h1,_⟩|⟨_,h1⟩
  ·exact .inl (aA6 (h1 y E))
  ·exact aCM u hi (h1 y E)
 rcases aNO (pr:=pr) hq he q with ⟨rfl,a,ta,ea⟩|⟨cs,blk,mk,rfl,tc,ec,tm⟩
 ·refine⟨bet,a,st,fun R h0 h1 hx=> ?_,id,fun ih stX k _=>ea ih stX k,fun l=>⟨aI5 _ _,aYO _ _,aBK _ _,aDl _ _,aBr _ _⟩⟩
  refine h.next2 u C (cY.refl Q) ?_ (fun hc=>⟨T ▸ hc,fun k _ hh=>⟨hh,rfl,rfl⟩,fun k h1 h2=>absurd h1 (by omega)⟩) J h0 h1 B hx (fun _=>D)
  rcases hb with ⟨Z,h1,_⟩|⟨Z,h1⟩
  ·exact .inl ⟨Z,ta.mono (lZ h1 _)⟩
  ·exact .inr ⟨Z,ta.mono (lZ (fun y E=>up E) _)⟩
 ·rcases hb with ⟨_,_,hm⟩|⟨Z,h1⟩
  ·have:=aWi hq hm q
   have:(s.new cs).nxt=s.nxt:=by rw[this]
   exact absurd this (by show s.nxt+1≠s.nxt;omega)
  have tcd:bO st.heap bet s.dom F blk.cells cs:=tc.mono ⟨fun _ _=>rfl,fun _ h=>h.1,fun _ h=>h.1,fun _ _=>rfl⟩
  have A:=Q.new tcd
  have m':(st.new blk).nxt.nat=st.nxt.nat+1:=mB _ _
  have I:gP bet s.nxt (st.nxt,blk.cells.length) s.nxt=(st.nxt,blk.cells.length):=iN _ _ _
  have g':FN d (Nx N i (st.new blk).nxt.nat) i st.nxt.nat:=aIa (by rw[h.n_i];exact bIK _) (by omega)
  refine⟨gP bet s.nxt (st.nxt,blk.cells.length),mk st.nxt,st.new blk,fun R h0 h' hx=> ?_,fun stX=>stX.new blk,fun ih stX k hn=>by rw[ec,hn],fun l=>⟨aWj _ _ _,aVZ _ _ _,by cases st;rfl,by cases st;rfl,by cases st;rfl⟩⟩
  refine h.next2 u C A (.inr ⟨Z,tm _ _ _ _ _ I ⟨bIZ _,by rw[I];exact g'⟩⟩) (fun hc=>⟨T ▸ hc,fun k O hh=> ?_,fun k h2 X hh=> ?_⟩) J h0 h' B hx (fun _=>D)
  ·have:(s.new cs).ob k=s.ob k:=if_neg (by omega)
   rw[this]at hh ⊢
   exact⟨hh,rfl,uR st blk (Q.rng k O).2⟩
  ·obtain rfl:k=s.nxt:=by have:k<s.nxt+1:=X;omega
   have:(s.new cs).ob s.nxt=⟨0,cs⟩:=if_pos rfl
   rw[this,I]
   exact⟨bIK _,blk,aIR st blk,rfl,tc.mono (aC8 A fun y E=>aCM u hi (h1 y E))⟩
theorem OI.vquiet(h:OI d n0 z G H F0 V i N st s bet F L r b recs)(u:eS d=true){o:bQg}(C:d[i]? =some o){v:TV}{x:VR}(hq:lK o.op=true)(q:sW P orc o b x (dZ (bF d i).del r) s=some (v,s',b'))(B:x.within s.nxt)(D:∀k ad,x≠ .st k ad):
  ∃(bet':Nat->Id×Nat) (a:AV) (st':St),(∀R:dI,R.n0=st.nxt.nat->R.n1=st'.nxt.nat->RX s bet F R x->OI d n0 z G H F0 V (i+1) (Nx N i st'.nxt.nat) st' s' bet' F (fV o.dst a L) (iJ o.dst v r) b' (R::recs))/\
   ∃f:St->St,(∀ih stX k,stX.nxt=st.nxt->dB P pr o.op ih (dP (bF d i).del L) V stX k=k a (f stX))/\(∀l,dS st (f (dN l st))=st'/\dS st (f (eD l st))=st'/\(f (dN l st)).nxt=st'.nxt/\(f (eD l st)).nxt=st'.nxt/\(f (eD l st)).heap=st'.heap):=by
 have hi:i<d.length:=(bJs.1 C).1
 unfold Ev.sW at q
 split at q
 ·next p S=>
  obtain⟨w,s1⟩:=p
  simp only[Option.some.injEq,Prod.mk.injEq]at q
  obtain⟨rfl,rfl,rfl⟩:=q
  cases hm:aAu o.op with
  |true=>
   simp only[if_true]
   exact h.quiet u C (φ:=jL N) (h.olds _) hq S (.inr ⟨rfl,fun y E=>gA.of_old E⟩) rfl rfl B D
  |false=>
   simp only[bIY,if_false]
   exact h.quiet u C (φ:=jL N) (h.olds _) hq S (.inl ⟨rfl,fun y E=>E,hm⟩) rfl rfl B D
 ·next S=>
  rw[bIM]at q
  obtain⟨⟨w,s1⟩,S,q⟩:=q
  simp only[Prod.mk.injEq]at q
  obtain⟨rfl,rfl,rfl⟩:=q
  exact h.quiet u C (φ:=gA d N i) (h.seen u hi) hq S (.inr ⟨rfl,fun y E=>E⟩) rfl rfl B D
theorem aJj{o:bQg}{p:gM}{f:dQ}{rest:gC}{x:Option bQd}(h:eT o.op=some x):nP P o p f rest=goX o p f rest x:=by unfold nP;rw[h]
theorem aD8{o:bQg}{p:gM}{f:dQ}{rest:gC}(h:eT o.op=none)(U:p.tot=true):nP P o p f rest=goT o p f rest:=by unfold nP;rw[h,U]
theorem aJw{o:bQg}{p:gM}{f:dQ}{rest:gC}(h:eT o.op=none)(U:p.tot=false)(hs:sL o.op=none):nP P o p f rest=goE o p f rest:=by unfold nP;rw[h,U,hs]
theorem bEQ{o:bQg}{p:gM}{f:dQ}{rest:gC}{q:bQb×bQd×bQd}(h:eT o.op=none)(U:p.tot=false)(hs:sL o.op=some q):nP P o p f rest=goS P o p q rest:=by unfold nP;rw[h,U,hs]
def rQ(P:bQe)(pr:cM)(d:List bQg)(n0:Nat)(z:St)(G:VS)(H:Nat->Id×Nat)(F0:Id->Prop)(V:aQ)(i:Nat)(o:bQg)(L:aQ)(r:bB)(recs:List dI)(st:St)(v:TV)(s':VS)(b':VO):Prop:=
 ∃N' st' bet' F' L' recs',OI d n0 z G H F0 V (i+1) N' st' s' bet' F' L' (iJ o.dst v r) b' recs'/\∃M,∀n,M<=n->∀(rest:gC) k,nP P o (bF d i) (dB P pr o.op (cD P pr true n)) rest recs L V st k=rest recs' L' V st' k
theorem aZM(h:OI d n0 z G H F0 V i N st s bet F L r b recs)(u:eS d=true){o:bQg}(C:d[i]? =some o){v:TV}(hs:eT o.op=some none)(hq:lK o.op=true)(q:sW P orc o b .q (dZ (bF d i).del r) s=some (v,s',b')):
  rQ P pr d n0 z G H F0 V i o L r recs st v s' b':=by
 obtain⟨bet',a,st',h1,f,h2,X⟩:=h.vquiet (pr:=pr) u C hq q trivial (fun k ad e=>by cases e)
 refine⟨_,st',bet',F,_,_,h1 ⟨st.nxt.nat,(f (dN (eN st.nxt.nat none) st)).nxt.nat,eN st.nxt.nat none,[],none,st.heap,(f (dN (eN st.nxt.nat none) st)).heap,false⟩ rfl (by rw[(X _).2.2.1]) ⟨rfl,rfl,rfl,fun y E=>rL (p:=(0,st.nxt.nat)) (.head _) (bIR _) E⟩,0,fun n _ rest k=> ?_⟩
 rw[aJj hs]
 show uG o (bF d i) (dB P pr o.op (cD P pr true n)) rest none recs L V st k=_
 unfold uG
 show lU (dB P pr o.op (cD P pr true n) (dP (bF d i).del L) V (dN (eN st.nxt.nat none) st) fT) _=_
 rw[h2 _ _ _ (aBK _ _)]
 show rest _ (fV o.dst a L) V (dS st (f (dN (eN st.nxt.nat none) st))) k=_
 rw[(X _).1]
theorem aDz(h:OI d n0 z G H F0 V i N st s bet F L r b recs)(hq:(jI (bF d i).un b.recs).all VR.isQ=true){h0 h1:Tr}:kY h0 h1 (bF d i).un recs=true:=
 aPx _ _ fun k R hu hr=>by
  obtain⟨j,x,_,_,_,g4,_,_,_,g8,_⟩:=h.at hu hr
  have:=aA9 _ _ hq k x hu g4
  cases x with
  |q=>exact g8.2.2.1
  |ld _=>cases this
  |cl _=>cases this
  |tt=>cases this
  |st _ _=>cases this
theorem aWW(Q:VI n0 st s bet F){ad:List Nat}{ah:List (Nat×Nat)}(h1:∀p∈ah,∃k∈ad,p=((bet k).1.nat,(bet k).1.nat+1))(h2:∀k∈ad,k<s.nxt/\(s.ob k).how=0/\((bet k).1.nat,(bet k).1.nat+1)∈ah):∀p∈ah,p.2<=st.nxt.nat:=fun p S=>by
 obtain⟨k,O,rfl⟩:=h1 p S
 exact(Q.rng k (h2 k O).1).2
theorem aZx(h:OI d n0 z G H F0 V i N st s bet F L r b recs)(u:eS d=true){o:bQg}(C:d[i]? =some o){e:bB}(he:ER st.heap bet s.dom F .nil V e){v:TV}{x:VR}(hs:eT o.op=none)(hn:sL o.op=none)(hq:lK o.op=true)(B:vY e s (bF d i) b=some x)(q:sW P orc o b x (dZ (bF d i).del r) s=some (v,s',b')):
  rQ P pr d n0 z G H F0 V i o L r recs st v s' b':=by
 unfold vY at B
 split at B
 ·next U=>
  split at B
  ·next W=>
   cases B
   obtain⟨bet',a,st',h1,f,h2,X⟩:=h.vquiet (pr:=pr) u C hq q trivial (fun k ad e=>by cases e)
   refine⟨_,st',bet',F,_,_,h1 ⟨st.nxt.nat,(f (eD (cF (bF d i).un recs []) st)).nxt.nat,cF (bF d i).un recs [],[],none,st.heap,(f (eD (cF (bF d i).un recs []) st)).heap,true⟩ rfl (by rw[(X _).2.2.2.1]) ⟨rfl,rfl⟩,0,fun n _ rest k=> ?_⟩
   rw[aD8 hs U]
   show lU (dB P pr o.op (cD P pr true n) (dP (bF d i).del L) V (eD (cF (bF d i).un recs []) st) fT) _=_
   rw[h2 _ _ _ (aDl _ _)]
   show bT (kY _ _ (bF d i).un recs) (rest _ (fV o.dst a L) V (dS st (f (eD (cF (bF d i).un recs []) st))) k) none=_
   rw[dG (aDz h W),(X _).2.1]
  ·cases B
 ·next U=>
  have U:(bF d i).tot=false:=by simpa using U
  rw[bIM]at B
  obtain⟨ad,B,rfl⟩:=B
  obtain⟨ah,g1,g2,g3⟩:=aDJ he B
  obtain⟨bet',a,st',h1,f,h2,X⟩:=h.vquiet (pr:=pr) u C hq q (fun k O=>(g3 k O).1) (fun k ad e=>by cases e)
  refine⟨_,st',bet',F,_,_,h1 ⟨st.nxt.nat,(f (dN (cF (bF d i).un recs ah) st)).nxt.nat,cF (bF d i).un recs ah,[],none,st.heap,(f (dN (cF (bF d i).un recs ah) st)).heap,false⟩ rfl (by rw[(X _).2.2.1]) ⟨rfl,rfl,rfl,fun k O=>rL (aCI _ _ _ (g3 k O).2.2) (bIK _) (bIZ _)⟩,0,fun n _ rest k=> ?_⟩
  rw[aJw hs U hn]
  show rA (bF d i).adr V (fun ah=>lU (dB P pr o.op (cD P pr true n) (dP (bF d i).del L) V (dN (cF (bF d i).un recs ah) st) fT) _)=_
  rw[g1,h2 _ _ _ (aBK _ _)]
  show rest _ (fV o.dst a L) V (dS st (f (dN (cF (bF d i).un recs ah) st))) k=_
  rw[(X _).1]
theorem aYU(h:OI d n0 z G H F0 V i N st s bet F L r b recs)(u:eS d=true){o:bQg}(C:d[i]? =some o){t:bQb}{x:bQd}(a':o.op= .load t x)(hc:b.clean=true)(W:(jI (bF d i).un b.recs).all VR.tame=true){av v:TV}
  (qa:dV (dZ b.new (dZ (bF d i).del r)) x=some av) (q:bG P (dD orc) o.op (dZ b.new (dZ (bF d i).del r)) s=some (v,s')):
  rQ P pr d n0 z G H F0 V i o L r recs st v s' (b.note (.ld av.blk)):=by
 have hi:i<d.length:=(bJs.1 C).1
 have Q:=h.step.inv
 obtain⟨a,ta,ea⟩:=fA (h.olds (bF d i).del) qa
 rw[a']at q
 simp only[bG]at q
 split at q
 case isFalse=>cases q
 case isTrue O=>
 simp only[bIL,bIM]at q
 obtain⟨av',qa',w,ql,q⟩:=q
 rw[qa]at qa'
 cases qa'
 cases q
 obtain⟨id,off,c,rfl,K,tc,ec,hx⟩:∃(id:Id) (off:Nat) (c:AV),a= .ptr id off/\jL N id.nat/\TR st.heap bet (KP s bet (jL N)) (FP F (jL N)) c v/\(∃blk,FC st.heap id blk/\∀k,oM P t off blk.cells k=k c)/\
   (∀k',av.blk=some k'->k'<s.nxt/\id=(bet k').1)/\(av.blk=none->F id):=by
  unfold kD at ql
  cases ta<;>simp only at ql<;>try (cases ql;done)
  ·rename_i k0 off Y
   split at ql
   ·next i'=>
    obtain⟨φ,hφ,blk,Z,e2,e3⟩:=h.cln hc k0 Y.1 i'.2
    have hold:φ=jL N:=by
     rcases hφ with ⟨_,e⟩|⟨j,hj,f1,f2,e⟩
     ·exact e
     ·have h1:(bet k0).1.nat<N 0:=Y.2
      have:=h.le (bIR j) (by omega)
      omega
    subst hold
    obtain⟨c,tc,ec⟩:=aFN ql e3
    exact⟨_,_,c,rfl,Y.2,tc,⟨blk,⟨Z,e3.nm⟩,ec⟩,(fun k' e=>by cases e;exact⟨Y.1,rfl⟩),(fun e=>by cases e)⟩
   ·cases ql
  ·rename_i id o m off blk cs hF hf hl hc
   obtain⟨c,tc,ec⟩:=aJp hl hc ql
   exact⟨_,_,c,rfl,hF.2,tc,⟨blk,hf,ec⟩,(fun k' e=>by cases e),(fun _=>hF.1)⟩
 obtain⟨blk,hf,ec⟩:=ec
 have d':(dN (eN st.nxt.nat (some id)) st).vis id:=aBA (by
  cases e':av.blk with
  |none=>exact Q.vis id (hx.2 e')
  |some k'=>obtain⟨g1,g2⟩:=hx.1 k' e';rw[g2];exact lI Q (Q.rng k' g1).1) (fun p S=>by
  have S:p∈ [(0,id.nat),(id.nat+1,st.nxt.nat)]:=S
  simp only[bJ4,bKf,or_false]at S
  rcases S with rfl|rfl<;>simp<;>omega)
 have j':N 0<=st.nxt.nat:=by rw[←h.n_i];exact h.le (bIR i) (bIK _)
 have c':id.nat<st.nxt.nat:=bIP K j'
 refine⟨_,st,bet,F,_,_,h.next2 (R:=⟨st.nxt.nat,st.nxt.nat,eN st.nxt.nat (some id),[],some id,st.heap,(dN (eN st.nxt.nat (some id)) st).heap,false⟩) (b':=b.note _) u C (cY.refl Q) (.inl ⟨rfl,tc⟩) (fun hc=>⟨hc,fun k _ hh=>⟨hh,rfl,rfl⟩,fun k h1 h2=>absurd h1 (by omega)⟩) rfl rfl rfl trivial
  ⟨rfl,rfl,id,rfl,hx.1,hx.2,fun y E n'=> ?_⟩ (fun _ k ad e=>by cases e),0,fun n _ rest k=> ?_⟩
 ·rcases bIT y id.nat with K|hge
  ·exact rL (p:=(0,id.nat)) (.head _) (bIR _) K
  ·exact rL (p:=(id.nat+1,st.nxt.nat)) (.tail _ (.head _)) (by show id.nat+1<=y;omega) E
 ·rw[aJj (show eT o.op=some (some x) by rw[a'];rfl)]
  show cE x (dP (bF d i).del L) V (fun y=>lC y fun id _=>bT (Nat.ble id.nat st.nxt.nat) (bT (oK id (bF d i).un recs) (uG o (bF d i) (dB P pr o.op (cD P pr true n)) rest (some id) recs L V st k) none) none)=_
  rw[ea]
  show bT (Nat.ble id.nat st.nxt.nat) (bT (oK id (bF d i).un recs) (uG o (bF d i) (dB P pr o.op (cD P pr true n)) rest (some id) recs L V st k) none) none=_
  rw[dG (eK (bJg c')),dG (aJA _ _ fun kk R hu hr=> ?_)]
  ·show lU (dB P pr o.op (cD P pr true n) (dP (bF d i).del L) V (dN (eN st.nxt.nat (some id)) st) fT) _=_
   have:dB P pr o.op (cD P pr true n) (dP (bF d i).del L) V (dN (eN st.nxt.nat (some id)) st) fT=some (c,dN (eN st.nxt.nat (some id)) st):=by
    rw[a']
    show yC P t x (dP (bF d i).del L) V _ fT=_
    unfold yC
    rw[O]
    show cE x _ V _=_
    rw[ea]
    show eQ (dN (eN st.nxt.nat (some id)) st) id _=_
    rw[gX d' (by rw[aIv];exact hf),ec]
    rfl
   rw[this]
   show rest (⟨st.nxt.nat,(dN (eN st.nxt.nat (some id)) st).nxt.nat,eN st.nxt.nat (some id),[],some id,st.heap,(dN (eN st.nxt.nat (some id)) st).heap,false⟩::recs) (fV o.dst c L) V (dS st (dN (eN st.nxt.nat (some id)) st)) k=_
   rw[aI5,aBK]
  ·obtain⟨j,x,j1,_,_,g4,g5,_,_,g8,_⟩:=h.at hu hr
   have f':=aA9 _ _ W kk x hu g4
   refine .inl ⟨?_, ?_⟩
   ·rw[g5]
    exact bIP K (h.le (bIR j) (by omega))
   ·cases x with
    |q=>exact g8.2.1
    |ld _=>exact g8.2.1
    |cl _=>exact g8.2.1
    |tt=>cases f'
    |st _ _=>cases f'
end
end
section
theorem mZ(st X:St):dS st X=⟨X.heap,X.nxt,st.ro,st.hid⟩:=by cases st;cases X;rfl
theorem sT{st:St}{l:List (Nat×Nat)}{id:Id}(h:st.vis id)(hl:∀p∈l,¬(p.1<=id.nat/\id.nat<p.2)):(eD l st).vis id:=by
 intro p hp
 have hp:p∈qS l st.hid:=hp
 rw[uV,bJE]at hp
 rcases hp with hp|hp
 ·exact hl p hp
 ·exact h p hp
section
variable {d:List bQg}{n0:Nat}{K:St}{U:VS}{W:Nat->Id×Nat}{F0:Id->Prop}{V:aQ}{i:Nat}{N:Nat->Nat}{st st':St}{s s':VS}{bet bet':Nat->Id×Nat}{F F':Id->Prop}{L:aQ}{r:bB}{b b':VO}{recs:List dI}{P:bQe}{pr:cM}{orc:cN}
theorem aFL(D:VI n0 st s bet F){k z:Nat}(h1:k<s.nxt)(h2:z<s.nxt)(c':k≠z):(bet k).1.nat≠(bet z).1.nat:=fun e=>c' (D.inj k z h1 h2 (Id.nat_inj e))
theorem aWx(h:OI d n0 K U W F0 V i N st s bet F L r b recs)(u:eS d=true){o:bQg}(T:d[i]? =some o){e:bB}(he:ER st.heap bet s.dom F .nil V e){t:bQb}{xa xv:bQd}(A:o.op= .store t xa xv)(ht:(bF d i).tot=false){k off:Nat}{ad:List Nat}{v:TV}
  (qa:dV (dZ (bF d i).del r) xa=some (.po k off)) (qad:uB e s (bF d i).adr=some ad) (d':ad.elem k=false) (O:(jI (bF d i).un b.recs).all (VR.okSt k)=true) (q:bG P (dD orc) o.op (dZ (bF d i).del r) s=some (v,s')):
  rQ P pr d n0 K U W F0 V i o L r recs st v s' (b.turned (.st k ad) o.dst):=by
 have J:i<d.length:=(bJs.1 T).1
 have D:=h.step.inv
 have H:=h.seen u J
 obtain⟨a,ta,ea⟩:=fA H qa
 obtain⟨ah,g1,g2,g3⟩:=aDJ he qad
 rw[A]at q
 simp only[bG]at q
 split at q
 case isFalse=>cases q
 case isTrue n'=>
 simp only[bIL,bIM]at q
 obtain⟨av',qa',w,qw,s1,qs,q⟩:=q
 rw[qa]at qa'
 cases qa'
 simp only[Prod.mk.injEq]at q
 obtain⟨rfl,rfl⟩:=q
 obtain⟨c,tc,ec⟩:=fA H qw
 have ha:a= .ptr (bet k).1 off/\KP s bet (gA d N i) k:=by
  cases ta with |po C=>exact⟨rfl,C⟩
 obtain⟨rfl,C⟩:=ha
 simp only[aAv]at qs
 split at qs
 case isFalse=>cases qs
 case isTrue I=>
 rw[bIM]at qs
 obtain⟨cs,e1,rfl⟩:=qs
 obtain⟨p1,p2⟩:=zZ e1
 obtain⟨blk,h1,h2,h3⟩:=D.obj k C.1 (by rw[I.2.1];decide)
 have tcd:TR st.heap bet s.dom F c w:=tc.mono ⟨fun _ _=>rfl,fun _ h=>h.1,fun _ h=>h.1,fun _ _=>rfl⟩
 have tcc:=tcd.cells (fun l e=>by subst e;cases I.2.2.2)
 have e':=tcc.length
 have v':=h3.length
 have o':bO st.heap bet s.dom F (blk.cells.take off++c.cells++blk.cells.drop (off+c.cells.length)) cs:=by
  rw[p2,e'];exact((h3.take off).app tcc).app (h3.drop _)
 have Y:cY n0 st s bet F (st.withH (Tr.put (some ⟨blk.cells.take off++c.cells++blk.cells.drop (off+c.cells.length),blk.exact⟩) (bet k).1 st.heap)) (s.set k ⟨0,cs⟩) bet F:=D.put C.1 I.2.1 (.inl rfl) (fun _=>⟨_,rfl,by
  show(blk.cells.take off++c.cells++blk.cells.drop (off+c.cells.length)).length=_
  rw[←h2];simp only[bJ3,bIW,bJj];omega,o'⟩)
 have f':∀z∈ad,z≠k:=fun z B e=>by
  subst e
  rw[bJP.2 B]at d';cases d'
 have Q:(eD (cF (bF d i).un recs ah) st).vis (bet k).1:=sT (lI D (D.rng k C.1).1) fun p hp hh=>by
  rcases h.hidden u J hp with hp|hp|⟨kk,R,x,f1,f2,f3,f4,f5,f6⟩
  ·obtain⟨z,B,rfl⟩:=g2 p hp
   have:=aFL D (g3 z B).1 C.1 (f' z B)
   simp only at hh
   omega
  ·exact hp _ C.2 hh
  ·have hx:=aA9 _ _ O kk x f1 f3
   cases x with
   |st z ad'=>
    simp only[VR.okSt,bIN,bne_iff_ne,ne_eq]at hx
    rw[f5.2.1,bJZ]at f4
    have:=aFL D f5.1 C.1 hx.1
    rw[f4]at hh
    simp only at hh
    omega
   |q=>rw[f5.1]at f4;cases f4
   |ld k=>rw[f5.1]at f4;cases f4
   |cl ad=>rw[f5.1]at f4;cases f4
   |tt=>rw[f5.1]at f4;cases f4
 have g':qR (bet k).1.nat (bF d i).un recs=true:=aQx _ _ fun kk R hu hr=>by
  obtain⟨j,x,j1,_,_,f3,f4,_,_,f5,_⟩:=h.at hu hr
  have hx:=aA9 _ _ O kk x hu f3
  by_cases E:(bet k).1.nat<R.n0
  ·right
   cases x with
   |q=>exact f5.2.2.2 _ E
   | ld z=>
    obtain⟨_,_,id,_,d1,d2,d3⟩:=f5
    refine d3 _ E fun e=> ?_
    cases z with
    |none=>
     have:(bet k).1=id:=Id.nat_inj e
     exact D.sep k C.1 I.2.1 (this ▸ d2 rfl)
    |some z=>
     obtain⟨d4,rfl⟩:=d1 z rfl
     simp only[VR.okSt,bne_iff_ne,ne_eq]at hx
     exact aFL D C.1 d4 (fun e=>hx e.symm) e
   |cl ad'=>
    simp only[VR.okSt]at hx
    exact f5.2.2.2 k (bJP.1 hx)
   |tt=>cases hx
   |st z ad'=>
    simp only[VR.okSt,bIN]at hx
    exact f5.2.2.2 k (bJP.1 hx.2)
  ·exact .inl (by omega)
 refine⟨_,_,bet,F,_,_,h.next2 (b':=b.turned (.st k ad) o.dst) (a:= .u) (R:=⟨st.nxt.nat,st.nxt.nat,cF (bF d i).un recs ah,[((bet k).1.nat,(bet k).1.nat+1)],none,st.heap,Tr.put (some ⟨blk.cells.take off++c.cells++blk.cells.drop (off+c.cells.length),blk.exact⟩) (bet k).1 st.heap,true⟩) u T Y (.inr ⟨rfl,.u⟩) (fun hc=>by cases hc) rfl rfl rfl (fun z B=>(g3 z B).1)
  ⟨C.1,rfl,rfl,fun z B=>rL (aCI _ _ _ (g3 z B).2.2) (bIK _) (bIZ _)⟩ (fun hc=>by cases hc),0,fun n _ rest kk=> ?_⟩
 rw[bEQ (q:=(t,xa,xv)) (show eT o.op=none by rw[A];rfl) ht (by rw[A];rfl)]
 show rA (bF d i).adr V (fun ah=>cE xa (dP (bF d i).del L) V fun y=>cE xv (dP (bF d i).del L) V fun v=>lC y fun id off=>bT (dE P t) (aGC P st t (cF (bF d i).un recs ah) (bF d i).un recs id off v _) none)=_
 rw[g1,ea,ec]
 show bT (dE P t) (aGC P st t (cF (bF d i).un recs ah) (bF d i).un recs (bet k).1 off c _) none=_
 rw[dG n']
 unfold aGC
 rw[dG g',gX Q ⟨by rw[aBr];exact h1,h3.nm⟩,dG (beq_true (by rw[xI,e'];exact I.2.2.1)),dG (uO tcc I.2.2.2),aAm _ _ _ _ (by omega)]
 unfold nJ
 rw[aAF (show(eD (cF (bF d i).un recs ah) st).ro<=_ from bIO (show st.ro<=n0 from D.ro) (D.rng k C.1).1)]
 rfl
theorem OI.vc(h:OI d n0 K U W F0 V i N st s bet F L r b recs)(u:eS d=true)(J:i<d.length)(hc:b.clean=true):VC (gA d N i) st s bet F:=by
 intro k C hh hs
 obtain⟨φ,hφ,blk,e1,e2,e3⟩:=h.cln hc k C hh
 refine⟨blk,e1,e2,e3.mono (lZ (fun y hy=> ?_) _)⟩
 rcases hφ with ⟨_,rfl⟩|⟨j,hj,f1,f2,rfl⟩
 ·exact gA.of_old hy
 ·refine FN.seen u J ?_ hy
  refine Classical.byContradiction fun ha=> ?_
  exact aHW h u J hj ha hs ⟨f1,f2⟩
theorem aYX(p':mK P pr orc)(h:OI d n0 K U W F0 V i N st s bet F L r b recs)(u:eS d=true){o:bQg}(T:d[i]? =some o){e:bB}(he:ER st.heap bet s.dom F .nil V e){g:bQd}{args:Array bQd}{q':Array bQb}(A:o.op= .call ⟨.value g,args,q'⟩)(hc:b.clean=true)(ht:(bF d i).tot=false){ad:List Nat}{v:TV}
  (qad:uB e s (bF d i).adr=some ad) (q:bG P (vI orc) o.op (dZ (bF d i).del r) s=some (v,s')) (r':ad.all (fun k=>(s'.ob k).how==0)=true):
  rQ P pr d n0 K U W F0 V i o L r recs st v s' (b.made (.cl ad) o.dst):=by
 have J:i<d.length:=(bJs.1 T).1
 have D:=h.step.inv
 have H:=h.seen u J
 obtain⟨ah,g1,g2,g3⟩:=aDJ he qad
 rw[A]at q
 simp only[bG,bIL]at q
 obtain⟨gv,q1,aa,q2,q⟩:=q
 obtain⟨ag,tg,eg⟩:=fA H q1
 obtain⟨aS,ta,ea⟩:=sK H q2
 cases tg<;>simp only at q<;>try (cases q;done)
 rename_i f a b1 va vb ha hb
 obtain⟨c,G,bet',F',Y,tc,⟨M,hM⟩,hold,w',h',x',i'⟩:=aXk p' D (h.vc u J hc) ((ha.app ta).app hb) q (l:=cF (bF d i).un recs ah) (fun p hp=>by
   rcases h.hid_clean u J hc hp with hp|hp
   ·obtain⟨k,C,rfl⟩:=g2 p hp
    refine .inr ⟨k,(g3 k C).1,rfl, ?_⟩
    have:=bJt.1 r' k C
    simpa using this
   ·exact .inl hp) (h.hid_bound (aWW D g2 g3)) (fun x hx=> .of_old (by show x<N 0;rw[h.n_0];exact bIP hx h.low0))
 have j':(dS st G).nxt=G.nxt:=by rw[mZ]
 have Z:(dS st G).heap=G.heap:=by rw[mZ]
 have up:∀y,(gA d N i y\/(st.nxt.nat<=y/\y<G.nxt.nat))->FN d (Nx N i (dS st G).nxt.nat) i y:=fun y hy=>by
  rw[j']
  rcases hy with hy|hy
  ·exact aCM u J hy
  ·exact aIa (by rw[h.n_i];exact hy.1) hy.2
 refine⟨_,dS st G,bet',F',_,_,h.next2 (b':=b.made (.cl ad) o.dst) (a:=c) (R:=⟨st.nxt.nat,G.nxt.nat,cF (bF d i).un recs ah,[],none,st.heap,G.heap,false⟩) u T Y (.inr ⟨rfl,by rw[Z];exact tc.mono (lZ up _)⟩) (fun _=>⟨hc,fun k C hh=> ?_,fun k h1 h2 hh=> ?_⟩) rfl rfl (by rw[j']) (fun z B=>(g3 z B).1)
  ⟨rfl,rfl,rfl,fun z B=>rL (aCI _ _ _ (g3 z B).2.2) (bIK _) (bIZ _)⟩ (fun _ k ad e=>by cases e),M,fun n hn rest kk=> ?_⟩
 ·obtain⟨d1,d2,d3⟩:=hold k C
  exact⟨d2 hh,d1,by rw[Z];exact i' _ (D.rng k C).2⟩
 ·obtain⟨d1,blk,d2,d3,d4⟩:=h' k h1 h2
  rw[Z]
  exact⟨d1,blk,d2,d3,d4.mono (lZ up _)⟩
 ·rw[aJw (show eT o.op=none by rw[A];rfl) ht (by rw[A];rfl)]
  show rA (bF d i).adr V (fun ah=>lU (dB P pr o.op (cD P pr true n) (dP (bF d i).del L) V (dN (cF (bF d i).un recs ah) st) fT) _)=_
  rw[g1]
  have:dB P pr o.op (cD P pr true n) (dP (bF d i).del L) V (dN (cF (bF d i).un recs ah) st) fT=some (c,G):=by
   rw[A]
   show cE g _ V (fun g=>jG args.toList _ V fun aa=>asF g fun f first cap=>eO P pr f (cD P pr true n) (lQ (lQ first aa) cap) (dN (cF (bF d i).un recs ah) st) fT)=_
   rw[eg,ea]
   show eO P pr f (cD P pr true n) (lQ (lQ a aS) b1) _ _=_
   rw[sQ,sQ]
   exact hM n hn fT
  rw[this]
  rfl
theorem aWf(h:OI d n0 K U W F0 V i N st s bet F L r b recs)(u:eS d=true){o:bQg}(T:d[i]? =some o){t:bQb}{x:bQd}(A:o.op= .load t x)(hc:b.clean=true)(O:(jI (bF d i).un b.recs).all VR.tame=true){av v:TV}
  (qa:dV (dZ (bF d i).del r) x=some av) (q:bG P (dD orc) o.op (dZ (bF d i).del r) s=some (v,s')):
  rQ P pr d n0 K U W F0 V i o L r recs st v s' (b.made (.ld av.blk) o.dst):=by
 have J:i<d.length:=(bJs.1 T).1
 have D:=h.step.inv
 obtain⟨a,ta,ea⟩:=fA (h.seen u J) qa
 rw[A]at q
 simp only[bG]at q
 split at q
 case isFalse=>cases q
 case isTrue C=>
 simp only[bIL,bIM]at q
 obtain⟨av',qa',w,ql,q⟩:=q
 rw[qa]at qa'
 cases qa'
 cases q
 obtain⟨id,off,c,rfl,E,tc,ec,hx⟩:∃(id:Id) (off:Nat) (c:AV),a= .ptr id off/\gA d N i id.nat/\TR st.heap bet (KP s bet (gA d N i)) (FP F (gA d N i)) c v/\(∃blk,FC st.heap id blk/\∀k,oM P t off blk.cells k=k c)/\
   (∀z,av.blk=some z->z<s.nxt/\id=(bet z).1)/\(av.blk=none->F id):=by
  unfold kD at ql
  cases ta<;>simp only at ql<;>try (cases ql;done)
  ·rename_i k0 off S
   split at ql
   ·next I=>
    obtain⟨blk,e1,e2,e3⟩:=h.vc u J hc k0 S.1 I.2 S.2
    obtain⟨c,tc,ec⟩:=aFN ql e3
    exact⟨_,_,c,rfl,S.2,tc,⟨blk,⟨e1,e3.nm⟩,ec⟩,(fun z e=>by cases e;exact⟨S.1,rfl⟩),(fun e=>by cases e)⟩
   ·cases ql
  ·rename_i id o m off blk cs hF hf hl hc
   obtain⟨c,tc,ec⟩:=aJp hl hc ql
   exact⟨_,_,c,rfl,hF.2,tc,⟨blk,hf,ec⟩,(fun z e=>by cases e),(fun _=>hF.1)⟩
 obtain⟨blk,hf,ec⟩:=ec
 have Q:(dN (eN st.nxt.nat (some id)) st).vis id:=aBA (by
  cases l':av.blk with
  |none=>exact D.vis id (hx.2 l')
  |some z=>obtain⟨g1,g2⟩:=hx.1 z l';rw[g2];exact lI D (D.rng z g1).1) (fun p hp=>by
  have hp:p∈ [(0,id.nat),(id.nat+1,st.nxt.nat)]:=hp
  simp only[bJ4,bKf,or_false]at hp
  rcases hp with rfl|rfl<;>simp<;>omega)
 have t':N 0<=st.nxt.nat:=by rw[←h.n_i];exact h.le (bIR i) (bIK _)
 have a':id.nat<st.nxt.nat:=by
  rcases E with E|⟨m,hm,_,E⟩
  ·exact bIP E t'
  ·have u':=aFj u J hm
   have:=h.le (show m+1<=i from u') (bIK _)
   rw[h.n_i]at this;omega
 refine⟨_,st,bet,F,_,_,h.next2 (R:=⟨st.nxt.nat,st.nxt.nat,eN st.nxt.nat (some id),[],some id,st.heap,(dN (eN st.nxt.nat (some id)) st).heap,false⟩) (b':=b.made _ _) u T (cY.refl D) (.inr ⟨rfl,tc.mono (lZ (fun y hy=>aCM u J hy) _)⟩) (fun hc=>⟨hc,fun k _ hh=>⟨hh,rfl,rfl⟩,fun k h1 h2=>absurd h1 (by omega)⟩) rfl rfl rfl trivial
  ⟨rfl,rfl,id,rfl,hx.1,hx.2,fun y hy c'=> ?_⟩ (fun _ k ad e=>by cases e),0,fun n _ rest k=> ?_⟩
 ·rcases bIT y id.nat with E|hge
  ·exact rL (p:=(0,id.nat)) (.head _) (bIR _) E
  ·exact rL (p:=(id.nat+1,st.nxt.nat)) (.tail _ (.head _)) (by show id.nat+1<=y;omega) hy
 ·rw[aJj (show eT o.op=some (some x) by rw[A];rfl)]
  show cE x (dP (bF d i).del L) V (fun y=>lC y fun id _=>bT (Nat.ble id.nat st.nxt.nat) (bT (oK id (bF d i).un recs) (uG o (bF d i) (dB P pr o.op (cD P pr true n)) rest (some id) recs L V st k) none) none)=_
  rw[ea]
  show bT (Nat.ble id.nat st.nxt.nat) (bT (oK id (bF d i).un recs) (uG o (bF d i) (dB P pr o.op (cD P pr true n)) rest (some id) recs L V st k) none) none=_
  rw[dG (eK (bJg a')),dG (aJA _ _ fun kk R hu hr=> ?_)]
  ·show lU (dB P pr o.op (cD P pr true n) (dP (bF d i).del L) V (dN (eN st.nxt.nat (some id)) st) fT) _=_
   have:dB P pr o.op (cD P pr true n) (dP (bF d i).del L) V (dN (eN st.nxt.nat (some id)) st) fT=some (c,dN (eN st.nxt.nat (some id)) st):=by
    rw[A]
    show yC P t x (dP (bF d i).del L) V _ fT=_
    unfold yC
    rw[C]
    show cE x _ V _=_
    rw[ea]
    show eQ (dN (eN st.nxt.nat (some id)) st) id _=_
    rw[gX Q (by rw[aIv];exact hf),ec]
    rfl
   rw[this]
   show rest (⟨st.nxt.nat,(dN (eN st.nxt.nat (some id)) st).nxt.nat,eN st.nxt.nat (some id),[],some id,st.heap,(dN (eN st.nxt.nat (some id)) st).heap,false⟩::recs) (fV o.dst c L) V (dS st (dN (eN st.nxt.nat (some id)) st)) k=_
   rw[aI5,aBK]
  ·obtain⟨j,x,j1,_,g3,g4,g5,g6,_,g8,_⟩:=h.at hu hr
   have m':=aA9 _ _ O kk x hu g4
   have hd:=aHW h u J j1 g3 E
   have hw:R.wild=false:=by
    cases x with
    |q=>exact g8.2.1
    |ld _=>exact g8.2.1
    |cl _=>exact g8.2.1
    |tt=>cases m'
    |st _ _=>cases m'
   rw[g5,g6]
   rcases bIT id.nat (N j)with h1|h1
   ·exact .inl ⟨h1,hw⟩
   ·refine .inr ⟨h1, ?_⟩
    rcases bIT id.nat (N (j+1))with h2|h2
    ·exact absurd ⟨h1,h2⟩ hd
    ·exact h2
end
end
section
section
variable {n0:Nat}{st:St}{P:bQe}{s s':VS}{bet:Nat->Id×Nat}{F:Id->Prop}{φ:Nat->Prop}{stX:St}
structure aCo(st stX:St):Prop where
 heap:stX.heap=st.heap
 nxt:stX.nxt=st.nxt
theorem aFA{h:Tr}{v:TV}{a:AV}(t:TR h bet (KP s bet φ) (FP F φ) a v):TR h bet s.dom F a v:=t.mono ⟨fun _ _=>rfl,fun _ h=>h.1,fun _ h=>h.1,fun _ _=>rfl⟩
theorem aOn{h:Tr}{v:List TV}{a:List AV}(t:bO h bet (KP s bet φ) (FP F φ) a v):bO h bet s.dom F a v:=t.mono ⟨fun _ _=>rfl,fun _ h=>h.1,fun _ h=>h.1,fun _ _=>rfl⟩
theorem aW7(A:VI n0 st s bet F)(f:aCo st stX){sz m:Nat}{v:TV}{a:AV}{cs:List TV}(ta:TR st.heap bet (KP s bet φ) (FP F φ) a v)(j:∀id,FP F φ id->stX.vis id)(Q:∀k off len sz,v= .ow k off len sz->KP s bet φ k->stX.vis (bet k).1)(q:jA s sz v=some (cs,m)):
  ∃aS,bO st.heap bet s.dom F aS cs/\(VC φ st s bet F->bO st.heap bet (KP s bet φ) (FP F φ) aS cs)/\∀k,aGU stX sz a k=k aS m:=by
 cases ta<;>simp only[jA]at q<;>try (cases q;done)
 ·cases q;exact⟨[],.nil,fun _=> .nil,fun k=>rfl⟩
 ·split at q
  ·cases q;exact⟨[],.nil,fun _=> .nil,fun k=>by simp;rfl⟩
  ·cases q
 ·split at q
  ·cases q;exact⟨[],.nil,fun _=> .nil,fun k=>by simp;rfl⟩
  ·cases q
 ·rename_i id off len cap i blk cs' K hf V hc
  split at q
  ·next hs=>
   cases q
   have r:cs.length=len*i:=by rw[←hc.length];simp only[bIW,bJj];omega
   refine⟨_,aOn hc,fun _=>hc,fun k=> ?_⟩
   show eQ stX id (fun b=>fR (Nat.mul len sz) off b.cells fun cs=>k cs len)=_
   rw[gX (j id K) (by rw[f.heap];exact hf),←hs.1]
   show fR (len*i) off blk.cells _=_
   rw[jW _ _ _ _ V,r,hs.1,bK2 _ hs.2]
  ·cases q
 ·rename_i id off i blk K hf V
  cases q
  refine⟨[],.nil,fun _=> .nil,fun k=> ?_⟩
  show eQ stX id (fun b=>fR (Nat.mul 0 sz) off b.cells fun cs=>k cs 0)=_
  rw[gX (j id K) (by rw[f.heap];exact hf),show Nat.mul 0 sz=0 from bJU sz,jW _ _ _ _ (by omega)];rfl
 ·rename_i g off len cap i u hc
  split at q
  ·next hs=>
   rw[bIM]at q
   obtain⟨l,e,q⟩:=q
   cases q
   obtain⟨c1,c2⟩:=wY e
   obtain⟨blk,h1,h2,w⟩:=A.obj g u.1 hs.2.2
   refine⟨_,c2 ▸ (w.drop off).take (m*sz),fun H=> ?_,fun k=> ?_⟩
   ·obtain⟨blk',g1,g2,g3⟩:=H g u.1 hs.2.2 u.2
    rw[h1]at g1
    cases g1
    exact c2 ▸ (g3.drop off).take (m*sz)
   ·show eQ stX (bet g).1 (fun b=>fR (Nat.mul m sz) off b.cells fun cs=>k cs m)=_
    rw[gX (Q _ _ _ _ rfl u) ⟨by rw[f.heap];exact h1,w.nm⟩]
    show fR (m*sz) off blk.cells _=_
    rw[jW _ _ _ _ (by rw[w.length];exact c1)]
  ·cases q
 ·cases q;exact⟨[],.nil,fun _=> .nil,fun k=>rfl⟩
 ·cases q;exact⟨[],.nil,fun _=> .nil,fun k=>rfl⟩
 ·rename_i id off i cap blk K hf V
  cases q
  refine⟨[],.nil,fun _=> .nil,fun k=> ?_⟩
  show eQ stX id (fun b=>fR (Nat.mul 0 sz) off b.cells fun cs=>k cs 0)=_
  rw[gX (j id K) (by rw[f.heap];exact hf),show Nat.mul 0 sz=0 from bJU sz,jW _ _ _ _ (by omega)];rfl
def sB(φ:Nat->Prop)(st d:St):Nat->Prop:=fun y=>φ y\/(st.nxt.nat<=y/\y<d.nxt.nat)
theorem sP(f:aCo st stX)(blk:cH):dS st (stX.new blk)=st.new blk/\(stX.new blk).nxt=(st.new blk).nxt/\(stX.new blk).heap=(st.new blk).heap:=by
 have R:(stX.new blk).heap=(st.new blk).heap:=by rw[aP1,aP1,f.heap,f.nxt]
 have Z:(stX.new blk).nxt=(st.new blk).nxt:=by show Id.succ stX.nxt=Id.succ st.nxt;rw[f.nxt]
 refine⟨?_,Z,R⟩
 rw[mZ,R,Z];rfl
theorem aIE(A:VI n0 st s bet F)(f:aCo st stX){t e:bQb}{x y v:TV}{ax ay:AV}(he:cU P t=some e)(tx:TR st.heap bet (KP s bet φ) (FP F φ) ax x)(ty:TR st.heap bet (KP s bet φ) (FP F φ) ay y)(j:∀id,FP F φ id->stX.vis id)
  (S:∀k off len sz,y= .ow k off len sz->KP s bet φ k->stX.vis (bet k).1) (T:∀k off len sz,x= .ow k off len sz->KP s bet φ k->stX.vis (bet k).1/\stX.ro<=(bet k).1.nat) (q:gT P e s x y=some (v,s')):
  ∃c d bet',cY n0 st s bet F (dS st d) s' bet' F/\TR d.heap bet' (KP s' bet' (sB φ st d)) (FP F (sB φ st d)) c v/\(∀k,pP P t ax ay stX k=k c d)/\((∀k off len sz,x≠ .ow k off len sz)->VC φ st s bet F->aGE st (dS st d) s s' bet/\aGy (sB φ st d) st (dS st d) s s' bet' F):=by
 unfold gT at q
 split at q
 case isFalse=>cases q
 case isTrue hc=>
 simp only[bIL]at q
 obtain⟨⟨cs,n⟩,R,q⟩:=q
 obtain⟨aS,ta,taC,ea⟩:=aW7 A f ty j S R
 simp only at q
 have red:∀k,pP P t ax ay stX k=bT (Nat.beq n 0) (iA ax (k ax stX) (k ax stX) fun _ _ _ _ _=>k ax stX) (bT (Nat.ble n 10000000&&jC aS) (iA ax (tU stX (aU P e) aS n k) none fun id off len cap i=>
   bT (Nat.beq i (aU P e)&&Nat.ble len 10000000) (Option.rec (uE stX (aU P e) id off len n aS k) (fun c=>oA stX (aU P e) id off len n c aS k) cap) none) none):=fun k=>by
  rw[aPb he hc]
  unfold vN
  rw[ea]
 have sz0:=aNw hc
 have L:dS st stX=st:=by rw[mZ,f.heap,f.nxt]
 have fresh:∀ {len:Nat} {cells:List AV} {tcs:List TV} {s1:VS},cY n0 st s bet F ((st.new ⟨cells,false⟩)) (s1.new tcs) (gP bet s1.nxt (st.nxt,cells.length)) F->s1.nxt=s.nxt->TR (st.new ⟨cells,false⟩).heap (gP bet s1.nxt (st.nxt,cells.length)) (KP (s1.new tcs) (gP bet s1.nxt (st.nxt,cells.length)) (sB φ st (stX.new ⟨cells,false⟩))) (FP F (sB φ st (stX.new ⟨cells,false⟩))) (.sl st.nxt 0 len none (aU P e)) (.ow s.nxt 0 len (aU P e)):=fun {len cells tcs s1} p hn=>by
  have M:gP bet s1.nxt (st.nxt,cells.length) s1.nxt=(st.nxt,cells.length):=iN _ _ _
  have:=TR.ow (h:=(st.new ⟨cells,false⟩).heap) (bet:=gP bet s1.nxt (st.nxt,cells.length)) (nx:=KP (s1.new tcs) (gP bet s1.nxt (st.nxt,cells.length)) (sB φ st (stX.new ⟨cells,false⟩))) (F:=FP F (sB φ st (stX.new ⟨cells,false⟩))) (k:=s1.nxt) (off:=0) (len:=len) (cap:=none) (sz:=aU P e) ⟨bIZ _,by
   rw[M];right;refine⟨bIK _, ?_⟩;rw[(sP f _).2.1,mB];exact bIZ _⟩ (fun c hc=>by cases hc)
  rw[M,hn]at this
  rw[hn]
  exact this
 have freshC:∀ {cells:List AV} {tcs:List TV},cY n0 st s bet F (st.new ⟨cells,false⟩) (s.new tcs) (gP bet s.nxt (st.nxt,cells.length)) F->bO st.heap bet (KP s bet φ) (FP F φ) cells tcs->
   aGE st (st.new ⟨cells,false⟩) s (s.new tcs) bet/\aGy (sB φ st (stX.new ⟨cells,false⟩)) st (st.new ⟨cells,false⟩) s (s.new tcs) (gP bet s.nxt (st.nxt,cells.length)) F:=fun {cells tcs} p a'=>by
  refine⟨fun k u hh=> ?_,fun k h2 w hh=> ?_⟩
  ·have:(s.new tcs).ob k=s.ob k:=if_neg (by omega)
   rw[this]at hh ⊢
   exact⟨hh,rfl,uR st _ (A.rng k u).2⟩
  ·obtain rfl:k=s.nxt:=by have:k<s.nxt+1:=w;omega
   have:(s.new tcs).ob s.nxt=⟨0,tcs⟩:=if_pos rfl
   rw[this,iN]
   exact⟨bIK _,⟨cells,false⟩,aIR st _,rfl,a'.mono (aC8 p fun y hy=> .inl hy)⟩
 split at q
 ·next h0=>
  have:v=x/\s'=s/\∀k:KS,iA ax (k ax stX) (k ax stX) (fun _ _ _ _ _=>k ax stX)=k ax stX:=by
   cases tx<;>simp only at q<;>try (cases q;done)
   all_goals (cases q;exact⟨rfl,rfl,fun k=>rfl⟩)
  obtain⟨rfl,rfl,u⟩:=this
  refine⟨ax,stX,bet,by rw[L];exact cY.refl A,by rw[f.heap];exact tx.mono (lZ (fun y hy=> .inl hy) _),fun k=> ?_,fun _ _=>by rw[L];exact⟨fun k _ hh=>⟨hh,rfl,rfl⟩,fun k h1 h2=>absurd h1 (by omega)⟩⟩
  rw[red,dG (beq_true h0),u]
 ·next h0=>
  split at q
  case isFalse=>cases q
  case isTrue hn=>
  have red2:∀k,pP P t ax ay stX k=iA ax (tU stX (aU P e) aS n k) none fun id off len cap i=>
   bT (Nat.beq i (aU P e)&&Nat.ble len 10000000) (Option.rec (uE stX (aU P e) id off len n aS k) (fun c=>oA stX (aU P e) id off len n c aS k) cap) none:=fun k=>by
   rw[red,beq_false h0]
   show bT (Nat.ble n 10000000&&jC aS) _ none=_
   rw[dG (by rw[eK hn.1,uO ta hn.2];rfl)]
  cases tx<;>simp only at q<;>try (cases q;done)
  ·-- onto nothing
   cases q
   have p:=A.new (blk:=⟨aS,false⟩) ta
   refine⟨.sl st.nxt 0 n none (aU P e),stX.new ⟨aS,false⟩,_,by rw[(sP f _).1];exact p,by rw[(sP f _).2.2];exact fresh p rfl,fun k=> ?_,fun _ H=>by rw[(sP f _).1];exact freshC p (taC H)⟩
   rw[red2]
   show k (.sl stX.nxt 0 n none (aU P e)) (stX.new ⟨aS,false⟩)=_
   rw[f.nxt]
  ·-- onto what has no room
   rename_i id off sz blk K hf V
   split at q
   ·next hs=>
    cases q
    subst hs
    have p:=A.new (blk:=⟨aS,false⟩) ta
    refine⟨.sl st.nxt 0 n none (aU P e),stX.new ⟨aS,false⟩,_,by rw[(sP f _).1];exact p,by rw[(sP f _).2.2];exact fresh p rfl,fun k=> ?_,fun _ H=>by rw[(sP f _).1];exact freshC p (taC H)⟩
    rw[red2]
    show bT (Nat.beq (aU P e) (aU P e)&&Nat.ble 0 10000000) (oA stX (aU P e) id off 0 n 0 aS k) none=_
    rw[dG (by rw[beq_true rfl];rfl)]
    unfold oA
    rw[show Nat.ble (Nat.add 0 n) 0=false from aBh (by show 0<0+n;omega)]
    show tY stX (aU P e) id off 0 n aS k=_
    unfold tY
    rw[gX (j id K) (by rw[f.heap];exact hf),show Nat.mul 0 (aU P e)=0 from bJU _,jW _ _ _ _ (by omega)]
    unfold tU
    rw[sQ]
    show k (.sl stX.nxt 0 (0+n) none (aU P e)) (stX.new ⟨[]++aS,false⟩)=_
    rw[bJl,bJO,f.nxt]
   ·cases q
  ·-- onto one's own
   rename_i g off len cap sz u O
   split at q
   case isFalse=>cases q
   case isTrue U=>
   obtain⟨rfl,hs,_,E,B,r⟩:=U
   subst hs
   cases q
   obtain⟨blk,h1,h2,w⟩:=A.obj g u.1 (by rw[E];decide)
   have I:=w.length
   obtain⟨C,J⟩:=T _ _ _ _ rfl u
   have W:Tr.find (bet g).1 stX.heap=some blk:=by rw[f.heap];exact h1
   cases cap with
   | none=>
    have d:=A.put u.1 E (ob:=none) (o:=⟨2,[]⟩) (.inr rfl) (fun h=>by cases h)
    have D:=d.inv.new (blk:=⟨blk.cells++aS,false⟩) (cs:=(s.ob g).cs++cs) ((w.mono d.sb).app (ta.mono d.sb))
    have b':aCo (st.withH (Tr.put none (bet g).1 st.heap)) (stX.withH (Tr.put none (bet g).1 stX.heap)):=⟨by show Tr.put none (bet g).1 stX.heap=Tr.put none (bet g).1 st.heap;rw[f.heap],f.nxt⟩
    obtain⟨l1,l2,l3⟩:=sP b' ⟨blk.cells++aS,false⟩
    have c':dS st ((stX.withH (Tr.put none (bet g).1 stX.heap)).new ⟨blk.cells++aS,false⟩)=(st.withH (Tr.put none (bet g).1 st.heap)).new ⟨blk.cells++aS,false⟩:=by
     rw[←l1,mZ,mZ];rfl
    refine⟨.sl st.nxt 0 (len+n) none (aU P e),(stX.withH (Tr.put none (bet g).1 stX.heap)).new ⟨blk.cells++aS,false⟩,_,by rw[c'];exact d.trans D, ?_,fun k=> ?_,fun hx=>absurd rfl (hx _ _ _ _)⟩
    ·rw[l3]
     have M:gP bet s.nxt (st.nxt,(blk.cells++aS).length) s.nxt=(st.nxt,(blk.cells++aS).length):=iN _ _ _
     have:=TR.ow (h:=((st.withH (Tr.put none (bet g).1 st.heap)).new ⟨blk.cells++aS,false⟩).heap) (bet:=gP bet s.nxt (st.nxt,(blk.cells++aS).length)) (nx:=KP ((s.set g ⟨2,[]⟩).new ((s.ob g).cs++cs)) (gP bet s.nxt (st.nxt,(blk.cells++aS).length)) (sB φ st ((stX.withH (Tr.put none (bet g).1 stX.heap)).new ⟨blk.cells++aS,false⟩))) (F:=FP F (sB φ st ((stX.withH (Tr.put none (bet g).1 stX.heap)).new ⟨blk.cells++aS,false⟩))) (k:=s.nxt) (off:=0) (len:=len+n) (cap:=none) (sz:=aU P e) ⟨bIZ _,by
      rw[M];right;refine⟨bIK _, ?_⟩;rw[mB];show st.nxt.nat<stX.nxt.nat+1;rw[f.nxt];exact bIZ _⟩ (fun c hc=>by cases hc)
     rw[M]at this
     exact this
    ·rw[red2]
     show bT (Nat.beq (aU P e) (aU P e)&&Nat.ble len 10000000) (uE stX (aU P e) (bet g).1 0 len n aS k) none=_
     rw[dG (by rw[beq_true rfl,eK r];rfl)]
     unfold uE
     show eQ stX (bet g).1 _=_
     rw[gX C ⟨W,w.nm⟩]
     show fR (len*aU P e) 0 blk.cells _=_
     rw[jW _ _ _ _ (by rw[I,B];omega),aAF J]
     rw[bJd,bJ2 (by rw[I,B];omega),sQ]
     rw[show st.nxt=stX.nxt from f.nxt.symm]
     rfl
   | some c=>
    obtain⟨g1,g2⟩:=O c rfl
    have g':c=len:=by
     have:c*aU P e=len*aU P e:=by omega
     exact Nat.eq_of_mul_eq_mul_right sz0 this
    have d:=A.dead u.1 E
    have D:=d.inv.new (blk:=⟨blk.cells++aS,false⟩) (cs:=(s.ob g).cs++cs) ((w.mono d.sb).app (ta.mono d.sb))
    refine⟨.sl st.nxt 0 (len+n) none (aU P e),stX.new ⟨blk.cells++aS,false⟩,_,by rw[(sP f _).1];exact d.trans D,by rw[(sP f _).2.2];exact fresh (s1:=s.set g ⟨2,[]⟩) (d.trans D) rfl,fun k=> ?_,fun hx=>absurd rfl (hx _ _ _ _)⟩
    rw[red2]
    show bT (Nat.beq (aU P e) (aU P e)&&Nat.ble len 10000000) (oA stX (aU P e) (bet g).1 0 len n c aS k) none=_
    rw[dG (by rw[beq_true rfl,eK r];rfl)]
    unfold oA
    rw[show Nat.ble (Nat.add len n) c=false from aBh (by show c<len+n;omega)]
    show tY stX (aU P e) (bet g).1 0 len n aS k=_
    unfold tY
    rw[gX C ⟨W,w.nm⟩]
    show fR (len*aU P e) 0 blk.cells _=_
    rw[jW _ _ _ _ (by rw[I,B];omega)]
    rw[bJd,bJ2 (by rw[I,B];omega),sQ]
    rw[show st.nxt=stX.nxt from f.nxt.symm]
    rfl
theorem bB8(A:VI n0 st s bet F)(f:aCo st stX){sz m n:Nat}{v:TV}{a:AV}{cs:List TV}(ta:TR st.heap bet (KP s bet φ) (FP F φ) a v)(j:∀id,FP F φ id->stX.vis id)(Q:∀k off len sz,v= .ow k off len sz->KP s bet φ k->stX.vis (bet k).1)(q:jA s sz v=some (cs,m))(hn:n<=m)(h0:0<n):∃is os c z b,a= .sl is os m c z/\stX.vis is/\FC stX.heap is b/\os+n*sz<=b.cells.length/\bO st.heap bet s.dom F ((b.cells.drop os).take (n*sz)) (cs.take (n*sz)):=by
 have G:=bJ8 sz hn
 cases ta<;>simp only[jA]at q<;>try (cases q;done)
 ·cases q;omega
 ·split at q
  ·cases q;simp at hn;omega
  ·cases q
 ·split at q
  ·cases q;simp at hn;omega
  ·cases q
 ·rename_i id off len cap i blk cs' K hf V hc
  split at q
  ·next hs=>
   cases q
   have r:cs.length=len*i:=by rw[←hc.length];simp only[bIW,bJj];omega
   have e:cs.length/sz=len:=by rw[r,hs.1,bK2 _ hs.2]
   rw[e]at G
   rw[hs.1]at V hc
   refine⟨id,off,cap,i,blk,by rw[e],j id K,by rw[f.heap];exact hf,by omega, ?_⟩
   have:=(aOn hc).take (n*sz)
   rw[bJC,bJc G]at this
   exact this
  ·cases q
 ·cases q;omega
 ·rename_i g off len cap i u hc
  split at q
  ·next hs=>
   rw[bIM]at q
   obtain⟨l,e,q⟩:=q
   cases q
   obtain⟨c1,c2⟩:=wY e
   obtain⟨blk,h1,h2,w⟩:=A.obj g u.1 hs.2.2
   refine⟨(bet g).1,off,cap,i,blk,rfl,Q _ _ _ _ rfl u,⟨by rw[f.heap];exact h1,w.nm⟩,by rw[w.length];omega, ?_⟩
   rw[c2,bJC,bJc G]
   exact(w.drop off).take (n*sz)
  ·cases q
 ·cases q;omega
 ·cases q;omega
 ·cases q;omega
theorem bAq(A:VI n0 st s bet F)(f:aCo st stX){t e:bQb}{x y v:TV}{ax ay:AV}(he:cU P t=some e)(tx:TR st.heap bet (KP s bet φ) (FP F φ) ax x)(ty:TR st.heap bet (KP s bet φ) (FP F φ) ay y)(j:∀id,FP F φ id->stX.vis id)
  (S:∀k off len sz,y= .ow k off len sz->KP s bet φ k->stX.vis (bet k).1) (T:∀k off len sz,x= .ow k off len sz->KP s bet φ k->stX.vis (bet k).1/\stX.ro<=(bet k).1.nat) (q:uC P e s x y=some (v,s')):
  ∃c d,cY n0 st s bet F (dS st d) s' bet F/\d.nxt=st.nxt/\(∀(h':Tr) (bet':Nat->Id×Nat) (nx:Nat->Prop) (F':Id->Prop),TR h' bet' nx F' c v)/\∀k,pN P t ax ay stX k=k c d:=by
 unfold uC at q
 split at q
 case isFalse=>cases q
 case isTrue hc=>
 have L:dS st stX=st:=by rw[mZ,f.heap,f.nxt]
 cases tx<;>simp only at q<;>try (cases q;done)
 rename_i g off len cap sz u O
 split at q
 case isFalse=>cases q
 case isTrue U=>
 obtain⟨hs,_,E⟩:=U
 simp only[bIL]at q
 obtain⟨⟨cs,m⟩,R,q⟩:=q
 simp only at q
 have X:(Bool.rec (motive:=fun _=>Nat) len m (Nat.ble m len))=min m len:=by
  cases M:Nat.ble m len with
  |true=>exact(bJc (bIU M)).symm
  |false=>
   have:¬m<=len:=fun h=>by rw[Nat.ble_eq_true_of_le h]at M;cases M
   have h2:len<=m:=by omega
   exact(Nat.min_eq_right h2).symm
 have red:∀k,pN P t (.sl (bet g).1 off len cap sz) ay stX k=aB1 (aU P e) (min m len) (.sl (bet g).1 off len cap sz) ay stX k:=fun k=>by
  rw[aP4 he hc]
  show aCp ay (fun ls=>aB1 (aU P e) (Bool.rec len ls (Nat.ble ls len)) _ ay stX k)=_
  rw[aLS (aFA ty) R,X]
 split at q
 ·next h0=>
  cases q
  refine⟨_,stX,by rw[L];exact cY.refl A,f.nxt,fun _ _ _ _=> .i _ _,fun k=> ?_⟩
  rw[red,h0]
  rfl
 ·next h0=>
  split at q
  case isFalse=>cases q
  case isTrue hn=>
  rw[bIM]at q
  obtain⟨cs',Z,q⟩:=q
  cases q
  generalize hN:min m len=N at*
  have d':N<=m:=by rw[←hN];exact Nat.min_le_left _ _
  obtain⟨is,os,c,z,b,rfl,C,hf,G,hT⟩:=bB8 A f ty j S R d' (by omega)
  obtain⟨p1,p2⟩:=zZ Z
  obtain⟨blk,h1,h2,w⟩:=A.obj g u.1 (by rw[E];decide)
  obtain⟨e',J⟩:=T _ _ _ _ rfl u
  have B:=hT.length
  rw[←hs]at G hT B
  have I:=w.length
  have f':bO st.heap bet s.dom F (blk.cells.take off++(b.cells.drop os).take (N*sz)++blk.cells.drop (off+((b.cells.drop os).take (N*sz)).length)) cs':=by
   rw[p2,B];exact((w.take off).app hT).app (w.drop _)
  have Y:=A.put (ob:=some ⟨blk.cells.take off++(b.cells.drop os).take (N*sz)++blk.cells.drop (off+((b.cells.drop os).take (N*sz)).length),blk.exact⟩) (o:=⟨0,cs'⟩) u.1 E (.inl rfl) (fun _=>⟨_,rfl,by
   show(blk.cells.take off++(b.cells.drop os).take (N*sz)++blk.cells.drop (off+((b.cells.drop os).take (N*sz)).length)).length=_
   rw[←h2];simp only[bJ3,bIW,bJj]at*;omega,f'⟩)
  refine⟨.i .i64 N,stX.withH (Tr.put (some ⟨blk.cells.take off++(b.cells.drop os).take (N*sz)++blk.cells.drop (off+((b.cells.drop os).take (N*sz)).length),blk.exact⟩) (bet g).1 stX.heap), ?_,f.nxt,fun _ _ _ _=> .i _ _,fun k=> ?_⟩
  ·have:dS st (stX.withH (Tr.put (some ⟨blk.cells.take off++(b.cells.drop os).take (N*sz)++blk.cells.drop (off+((b.cells.drop os).take (N*sz)).length),blk.exact⟩) (bet g).1 stX.heap))=st.withH (Tr.put (some ⟨blk.cells.take off++(b.cells.drop os).take (N*sz)++blk.cells.drop (off+((b.cells.drop os).take (N*sz)).length),blk.exact⟩) (bet g).1 st.heap):=by
    rw[mZ,f.heap]
    show(⟨_,stX.nxt,st.ro,st.hid⟩:St)=⟨_,st.nxt,st.ro,st.hid⟩
    rw[f.nxt]
    rfl
   rw[this]
   exact Y
  ·rw[red]
   unfold aB1
   rw[beq_false h0]
   show bT (Nat.ble N 10000000) (eQ stX is fun b=>fR (Nat.mul N (aU P e)) os b.cells fun new=>bT (jC new) (eQ stX (bet g).1 fun b2=>nO new off b2.cells fun cs=>nJ stX (bet g).1 ⟨cs,b2.exact⟩ fun st=>k (.i .i64 N) st) none) none=_
   rw[dG (eK hn.1),gX C hf,←hs]
   show fR (N*sz) os b.cells _=_
   rw[jW _ _ _ _ G,dG (uO hT hn.2),gX e' ⟨by rw[f.heap];exact h1,w.nm⟩,aAm _ _ _ _ (by omega)]
   unfold nJ
   rw[aAF J]
   rfl
end
end
section
section
variable {f:List bQg}{n0:Nat}{O:St}{s0:VS}{b0:Nat->Id×Nat}{F0:Id->Prop}{V:aQ}{i:Nat}{N:Nat->Nat}{st st':St}{s s':VS}{bet bet':Nat->Id×Nat}{F F':Id->Prop}{L:aQ}{r:bB}{b b':VO}{recs:List dI}{P:bQe}{pr:cM}{orc:cN}
theorem aMX{E:List bQb}{l:List TV}{v:TV}(q:aK P E l s=some (v,s')):∃t t' x y e e',E=[t,t']/\l=[x,y]/\cU P t'=some e'/\cU P t=some e/\gT P e s x y=some (v,s'):=by
 unfold aK at q
 split at q
 ·rename_i t t' x y
  split at q
  ·next hs=>
   simp only[bIL]at q
   obtain⟨e,e2,q⟩:=q
   obtain⟨e',hs⟩:=bLC.1 hs
   exact⟨t,t',x,y,e,e',rfl,rfl,hs,e2,q⟩
  ·cases q
 ·cases q
theorem aIV{args:Array bQd}{E:Array bQb}{t t' e':bQb}{D:aQ}{ax ay:AV}(X:E.toList=[t,t'])(f':cU P t'=some e')(ha:∀k,jG args.toList D V k=k [ax,ay])(ih:IH)(stX:St)(k:KS):dB P pr (.call ⟨.builtin .append,args,E⟩) ih D V stX k=pP P t ax ay stX k:=by
 show jG args.toList D V (fun l=>wH l fun s x=>aGv P E.toList s x stX k)=_
 rw[ha,X]
 show(Option.rec (motive:=fun _=>AV->AV->St->KS->OR) (Bool.rec (fun _ _ _ _=>none) (aEa P t) (xQ P t')) (fun _=>pP P t) (cU P t')) ax ay stX k=_
 rw[f']
theorem aDA(h:OI f n0 O s0 b0 F0 V i N st s bet F L r b recs)(u:eS f=true)(W:i<f.length){A:St}{n:Nat}(hn:n=A.nxt.nat):∀y,sB (gA f N i) st A y->FN f (Nx N i n) i y:=fun y hy=>by
 rcases hy with hy|hy
 ·exact aCM u W hy
 ·exact aIa (by rw[h.n_i];exact hy.1) (by rw[hn];exact hy.2)
theorem bO.two{h:Tr}{nx:Nat->Prop}{aS:List AV}{x y:TV}(t:bO h bet nx F aS [x,y]):∃ax ay,aS=[ax,ay]/\TR h bet nx F ax x/\TR h bet nx F ay y:=by
 cases t with |cons h1 t=>cases t with |cons h2 t=>cases t with |nil=>exact⟨_,_,rfl,h1,h2⟩
theorem aV9(h:OI f n0 O s0 b0 F0 V i N st s bet F L r b recs)(u:eS f=true){o:bQg}(Q:f[i]? =some o){args:Array bQd}{E:Array bQb}(B:o.op= .call ⟨.builtin .append,args,E⟩)(Y:(bF f i).tot=true)(G:(jI (bF f i).un b.recs).all VR.isQ=true){v:TV}
  (q:bG P (dD orc) o.op (dZ (bF f i).del r) s=some (v,s')):rQ P pr f n0 O s0 b0 F0 V i o L r recs st v s' (b.turned .tt o.dst):=by
 have W:i<f.length:=(bJs.1 Q).1
 have H:=h.step.inv
 have K:=h.seen u W
 rw[B]at q
 simp only[bG,bIL]at q
 obtain⟨l,q1,q⟩:=q
 simp only[jJ]at q
 obtain⟨t,t',x,y,e,e',X,rfl,f',he,q⟩:=aMX q
 obtain⟨aS,ta,ea⟩:=sK K q1
 obtain⟨ax,ay,rfl,tx,ty⟩:=ta.two
 have I:∀p∈cF (bF f i).un recs [],∀z,gA f N i z->¬(p.1<=z/\z<p.2):=fun p hp=>by
  rcases h.hid_q u W G hp with hp|hp
  ·cases hp
  ·exact hp
 obtain⟨c,A,bet',Z,tc,a',_⟩:=aIE (φ:=gA f N i) (stX:=eD (cF (bF f i).un recs []) st) H ⟨aBr _ _,aDl _ _⟩ he tx ty (fun id hF=>sT (H.vis id hF.1) fun p hp=>I p hp _ hF.2)
  (fun k _ _ _ _ J=>sT (lI H (H.rng k J.1).1) fun p hp=>I p hp _ J.2) (fun k _ _ _ _ J=>⟨sT (lI H (H.rng k J.1).1) fun p hp=>I p hp _ J.2,bIO (show(eD (cF (bF f i).un recs []) st).ro<=n0 from H.ro) (H.rng k J.1).1⟩) q
 have T:(dS st A).nxt=A.nxt:=by rw[mZ]
 have j':(dS st A).heap=A.heap:=by rw[mZ]
 refine⟨_,dS st A,bet',F,_,_,h.next2 (b':=b.turned .tt o.dst) (a:=c) (R:=⟨st.nxt.nat,A.nxt.nat,cF (bF f i).un recs [],[],none,st.heap,A.heap,true⟩) u Q Z (.inr ⟨rfl,by rw[j'];exact tc.mono (lZ (aDA h u W (by rw[T])) _)⟩) (fun hc=>by cases hc) rfl rfl (by rw[T]) trivial ⟨rfl,rfl⟩ (fun hc=>by cases hc),0,fun n _ rest kk=> ?_⟩
 rw[aD8 (show eT o.op=none by rw[B];rfl) Y]
 show lU (dB P pr o.op (cD P pr true n) (dP (bF f i).del L) V (eD (cF (bF f i).un recs []) st) fT) _=_
 have:dB P pr o.op (cD P pr true n) (dP (bF f i).del L) V (eD (cF (bF f i).un recs []) st) fT=some (c,A):=by
  rw[B,aIV X f' ea,a']
  rfl
 rw[this]
 show bT (kY _ _ (bF f i).un recs) (rest _ (fV o.dst c L) V (dS st A) kk) none=_
 rw[dG (aDz h G)]
theorem aXR{E:List bQb}{l:List TV}{v:TV}(q:aCc P E l s=some (v,s')):∃t tl x y e,E=t::tl/\l=[x,y]/\cU P t=some e/\uC P e s x y=some (v,s'):=by
 unfold aCc at q
 split at q
 ·rename_i t tl x y
  simp only[bIL]at q
  obtain⟨e,e2,q⟩:=q
  exact⟨t,tl,x,y,e,rfl,rfl,e2,q⟩
 ·cases q
theorem bBV{args:Array bQd}{E:Array bQb}{t:bQb}{tl:List bQb}{D:aQ}{ax ay:AV}(X:E.toList=t::tl)(ha:∀k,jG args.toList D V k=k [ax,ay])(ih:IH)(stX:St)(k:KS):dB P pr (.call ⟨.builtin .copy,args,E⟩) ih D V stX k=pN P t ax ay stX k:=by
 show jG args.toList D V (fun l=>(Option.rec (motive:=fun _=>List AV->St->KS->OR) (fun _ _ _=>none) (fun t l st k=>wH l fun d s=>pN P t d s st k) (E[0]?)) l stX k)=_
 rw[ha,show E[0]? =some t by rw[←bKD,X];rfl]
 rfl
theorem bA3(h:OI f n0 O s0 b0 F0 V i N st s bet F L r b recs)(u:eS f=true){o:bQg}(Q:f[i]? =some o){args:Array bQd}{E:Array bQb}(B:o.op= .call ⟨.builtin .copy,args,E⟩)(Y:(bF f i).tot=true)(G:(jI (bF f i).un b.recs).all VR.isQ=true){v:TV}
  (q:bG P (dD orc) o.op (dZ (bF f i).del r) s=some (v,s')):rQ P pr f n0 O s0 b0 F0 V i o L r recs st v s' (b.turned .tt o.dst):=by
 have W:i<f.length:=(bJs.1 Q).1
 have H:=h.step.inv
 have K:=h.seen u W
 rw[B]at q
 simp only[bG,bIL]at q
 obtain⟨l,q1,q⟩:=q
 simp only[jJ]at q
 obtain⟨t,tl,x,y,e,X,rfl,he,q⟩:=aXR q
 obtain⟨aS,ta,ea⟩:=sK K q1
 obtain⟨ax,ay,rfl,tx,ty⟩:=ta.two
 have I:∀p∈cF (bF f i).un recs [],∀z,gA f N i z->¬(p.1<=z/\z<p.2):=fun p hp=>by
  rcases h.hid_q u W G hp with hp|hp
  ·cases hp
  ·exact hp
 obtain⟨c,A,Z,a9,tc,a'⟩:=bAq (φ:=gA f N i) (stX:=eD (cF (bF f i).un recs []) st) H ⟨aBr _ _,aDl _ _⟩ he tx ty (fun id hF=>sT (H.vis id hF.1) fun p hp=>I p hp _ hF.2)
  (fun k _ _ _ _ J=>sT (lI H (H.rng k J.1).1) fun p hp=>I p hp _ J.2) (fun k _ _ _ _ J=>⟨sT (lI H (H.rng k J.1).1) fun p hp=>I p hp _ J.2,bIO (show(eD (cF (bF f i).un recs []) st).ro<=n0 from H.ro) (H.rng k J.1).1⟩) q
 have T:(dS st A).nxt=A.nxt:=by rw[mZ]
 refine⟨_,dS st A,bet,F,_,_,h.next2 (b':=b.turned .tt o.dst) (a:=c) (R:=⟨st.nxt.nat,A.nxt.nat,cF (bF f i).un recs [],[],none,st.heap,A.heap,true⟩) u Q Z (.inr ⟨rfl,tc _ _ _ _⟩) (fun hc=>by cases hc) rfl rfl (by rw[T]) trivial ⟨rfl,rfl⟩ (fun hc=>by cases hc),0,fun n _ rest kk=> ?_⟩
 rw[aD8 (show eT o.op=none by rw[B];rfl) Y]
 show lU (dB P pr o.op (cD P pr true n) (dP (bF f i).del L) V (eD (cF (bF f i).un recs []) st) fT) _=_
 have:dB P pr o.op (cD P pr true n) (dP (bF f i).del L) V (eD (cF (bF f i).un recs []) st) fT=some (c,A):=by
  rw[B,bBV X ea,a']
  rfl
 rw[this]
 show bT (kY _ _ (bF f i).un recs) (rest _ (fV o.dst c L) V (dS st A) kk) none=_
 rw[dG (aDz h G)]
theorem aUZ(h:OI f n0 O s0 b0 F0 V i N st s bet F L r b recs)(u:eS f=true){o:bQg}(Q:f[i]? =some o){ee:bB}(y':ER st.heap bet s.dom F .nil V ee){args:Array bQd}{E:Array bQb}(B:o.op= .call ⟨.builtin .append,args,E⟩)(hc:b.clean=true){x:VR}{l:List TV}{v:TV}
  (hw:vY ee s (bF f i) b=some x) (hl:lN (dZ (bF f i).del r) args.toList=some l) (c':∀k off len sz m,l≠ .ow k off len sz::m) (d':aGh x l=true) (q:bG P (dD orc) o.op (dZ (bF f i).del r) s=some (v,s')):rQ P pr f n0 O s0 b0 F0 V i o L r recs st v s' (b.made x o.dst):=by
 have W:i<f.length:=(bJs.1 Q).1
 have H:=h.step.inv
 have K:=h.seen u W
 have p':eT o.op=none:=by rw[B];rfl
 rw[B]at q
 simp only[bG,bIL]at q
 obtain⟨l',q1,q⟩:=q
 rw[hl]at q1
 cases q1
 simp only[jJ]at q
 obtain⟨t,t',x',y,e,e',X,rfl,f',he,q⟩:=aMX q
 obtain⟨aS,ta,ea⟩:=sK K hl
 obtain⟨ax,ay,rfl,tx,ty⟩:=ta.two
 have c':∀k off len sz,x'≠ .ow k off len sz:=fun k off len sz e=>c' k off len sz [y] (by rw[e])
 unfold vY at hw
 split at hw
 ·next Y=>
  split at hw
  case isFalse=>cases hw
  case isTrue G=>
  cases hw
  have I:∀p∈cF (bF f i).un recs [],∀z,gA f N i z->¬(p.1<=z/\z<p.2):=fun p hp=>by
   rcases h.hid_q u W G hp with hp|hp
   ·cases hp
   ·exact hp
  obtain⟨c,A,bet',Z,tc,a',g'⟩:=aIE (φ:=gA f N i) (stX:=eD (cF (bF f i).un recs []) st) H ⟨aBr _ _,aDl _ _⟩ he tx ty (fun id hF=>sT (H.vis id hF.1) fun p hp=>I p hp _ hF.2)
   (fun k _ _ _ _ J=>sT (lI H (H.rng k J.1).1) fun p hp=>I p hp _ J.2) (fun k _ _ _ e _=>absurd e (c' _ _ _ _)) q
  have T:(dS st A).nxt=A.nxt:=by rw[mZ]
  have j':(dS st A).heap=A.heap:=by rw[mZ]
  obtain⟨c1,c2⟩:=g' c' (h.vc u W hc)
  refine⟨_,dS st A,bet',F,_,_,h.next2 (b':=b.made .tt o.dst) (a:=c) (R:=⟨st.nxt.nat,A.nxt.nat,cF (bF f i).un recs [],[],none,st.heap,A.heap,true⟩) u Q Z (.inr ⟨rfl,by rw[j'];exact tc.mono (lZ (aDA h u W (by rw[T])) _)⟩)
   (fun _=>⟨hc,c1,fun k h1 h2 h3=>by obtain⟨d1,blk,d2,d3,d4⟩:=c2 k h1 h2 h3;exact⟨d1,blk,d2,d3,d4.mono (lZ (aDA h u W (by rw[T])) _)⟩⟩) rfl rfl (by rw[T]) trivial ⟨rfl,rfl⟩ (fun _ k ad e=>by cases e),0,fun n _ rest kk=> ?_⟩
  rw[aD8 p' Y]
  show lU (dB P pr o.op (cD P pr true n) (dP (bF f i).del L) V (eD (cF (bF f i).un recs []) st) fT) _=_
  have:dB P pr o.op (cD P pr true n) (dP (bF f i).del L) V (eD (cF (bF f i).un recs []) st) fT=some (c,A):=by
   rw[B,aIV X f' ea,a']
   rfl
  rw[this]
  show bT (kY _ _ (bF f i).un recs) (rest _ (fV o.dst c L) V (dS st A) kk) none=_
  rw[dG (aDz h G)]
 ·next Y=>
  have Y:(bF f i).tot=false:=by simpa using Y
  rw[bIM]at hw
  obtain⟨ad,hw,rfl⟩:=hw
  obtain⟨ah,g1,g2,g3⟩:=aDJ y' hw
  have I:∀p∈cF (bF f i).un recs ah,(∃k∈ad,p=((bet k).1.nat,(bet k).1.nat+1))\/∀z,gA f N i z->¬(p.1<=z/\z<p.2):=fun p hp=>by
   rcases h.hid_clean u W hc hp with hp|hp
   ·exact .inl (g2 p hp)
   ·exact .inr hp
  obtain⟨c,A,bet',Z,tc,a',g'⟩:=aIE (φ:=gA f N i) (stX:=dN (cF (bF f i).un recs ah) st) H ⟨aIv _ _,aBK _ _⟩ he tx ty
   (fun id hF=>aBA (H.vis id hF.1) fun p hp hh=>by
    rcases I p hp with ⟨k,J,rfl⟩|hd
    ·have:id=(bet k).1:=Id.nat_inj (by simp only at hh;omega)
     exact H.sep k (g3 k J).1 (g3 k J).2.1 (this ▸ hF.1)
    ·exact hd _ hF.2 hh)
   (fun k off len sz hy J=>aBA (lI H (H.rng k J.1).1) fun p hp hh=>by
    rcases I p hp with ⟨k',i',rfl⟩|hd
    ·have z':k'≠k:=fun e=>by
      subst e
      rw[hy]at d'
      simp only[aGh]at d'
      rw[bJP.2 i']at d'
      cases d'
     have:=aFL H (g3 k' i').1 J.1 z'
     simp only at hh
     omega
    ·exact hd _ J.2 hh) (fun k _ _ _ e _=>absurd e (c' _ _ _ _)) q
  have T:(dS st A).nxt=A.nxt:=by rw[mZ]
  have j':(dS st A).heap=A.heap:=by rw[mZ]
  obtain⟨c1,c2⟩:=g' c' (h.vc u W hc)
  refine⟨_,dS st A,bet',F,_,_,h.next2 (b':=b.made (.cl ad) o.dst) (a:=c) (R:=⟨st.nxt.nat,A.nxt.nat,cF (bF f i).un recs ah,[],none,st.heap,A.heap,false⟩) u Q Z (.inr ⟨rfl,by rw[j'];exact tc.mono (lZ (aDA h u W (by rw[T])) _)⟩)
   (fun _=>⟨hc,c1,fun k h1 h2 h3=>by obtain⟨d1,blk,d2,d3,d4⟩:=c2 k h1 h2 h3;exact⟨d1,blk,d2,d3,d4.mono (lZ (aDA h u W (by rw[T])) _)⟩⟩) rfl rfl (by rw[T]) (fun k' i'=>(g3 k' i').1) ⟨rfl,rfl,rfl,fun k' i'=>rL (aCI _ _ _ (g3 k' i').2.2) (bIK _) (bIZ _)⟩ (fun _ k ad e=>by cases e),0,fun n _ rest kk=> ?_⟩
  rw[aJw p' Y (by rw[B];rfl)]
  show rA (bF f i).adr V (fun ah=>lU (dB P pr o.op (cD P pr true n) (dP (bF f i).del L) V (dN (cF (bF f i).un recs ah) st) fT) _)=_
  rw[g1]
  have:dB P pr o.op (cD P pr true n) (dP (bF f i).del L) V (dN (cF (bF f i).un recs ah) st) fT=some (c,A):=by
   rw[B,aIV X f' ea,a']
   rfl
  rw[this]
  rfl
theorem aUO(h:OI f n0 O s0 b0 F0 V i N st s bet F L r b recs)(u:eS f=true){o:bQg}(Q:f[i]? =some o){t:bQb}{xa xv:bQd}(B:o.op= .store t xa xv)(Y:(bF f i).tot=true)(G:(jI (bF f i).un b.recs).all VR.isQ=true){v:TV}
  (q:bG P (dD orc) o.op (dZ (bF f i).del r) s=some (v,s')):rQ P pr f n0 O s0 b0 F0 V i o L r recs st v s' (b.turned .tt o.dst):=by
 have W:i<f.length:=(bJs.1 Q).1
 have H:=h.step.inv
 have K:=h.seen u W
 rw[B]at q
 simp only[bG]at q
 split at q
 case isFalse=>cases q
 case isTrue a0=>
 simp only[bIL,bIM]at q
 obtain⟨av,qa,w,qw,s1,qs,q⟩:=q
 simp only[Prod.mk.injEq]at q
 obtain⟨rfl,rfl⟩:=q
 obtain⟨a,ta,ea⟩:=fA K qa
 obtain⟨c,tc,ec⟩:=fA K qw
 unfold aAv at qs
 split at qs
 case h_2=>cases qs
 case h_1 k off=>
 have ha:a= .ptr (bet k).1 off/\KP s bet (gA f N i) k:=by
  cases ta with |po J=>exact⟨rfl,J⟩
 obtain⟨rfl,J⟩:=ha
 split at qs
 case isFalse=>cases qs
 case isTrue C=>
 rw[bIM]at qs
 obtain⟨cs,e1,rfl⟩:=qs
 obtain⟨p1,p2⟩:=zZ e1
 obtain⟨blk,h1,h2,h3⟩:=H.obj k J.1 (by rw[C.2.1];decide)
 have tcd:=aFA tc
 have tcc:=tcd.cells (fun l e=>by subst e;cases C.2.2.2)
 have g':=tcc.length
 have b2:=h3.length
 have a2:bO st.heap bet s.dom F (blk.cells.take off++c.cells++blk.cells.drop (off+c.cells.length)) cs:=by
  rw[p2,g'];exact((h3.take off).app tcc).app (h3.drop _)
 have Z:cY n0 st s bet F (st.withH (Tr.put (some ⟨blk.cells.take off++c.cells++blk.cells.drop (off+c.cells.length),blk.exact⟩) (bet k).1 st.heap)) (s.set k ⟨0,cs⟩) bet F:=H.put J.1 C.2.1 (.inl rfl) (fun _=>⟨_,rfl,by
  show(blk.cells.take off++c.cells++blk.cells.drop (off+c.cells.length)).length=_
  rw[←h2];simp only[bJ3,bIW,bJj];omega,a2⟩)
 have u':(eD (cF (bF f i).un recs []) st).vis (bet k).1:=sT (lI H (H.rng k J.1).1) fun p hp=>by
  rcases h.hid_q u W G hp with hp|hp
  ·cases hp
  ·exact hp _ J.2
 refine⟨_,_,bet,F,_,_,h.next2 (b':=b.turned .tt o.dst) (a:= .u) (R:=⟨st.nxt.nat,st.nxt.nat,cF (bF f i).un recs [],[],none,st.heap,Tr.put (some ⟨blk.cells.take off++c.cells++blk.cells.drop (off+c.cells.length),blk.exact⟩) (bet k).1 st.heap,true⟩) u Q Z (.inr ⟨rfl,.u⟩) (fun hc=>by cases hc) rfl rfl rfl trivial
  ⟨rfl,rfl⟩ (fun hc=>by cases hc),0,fun n _ rest kk=> ?_⟩
 rw[aD8 (show eT o.op=none by rw[B];rfl) Y]
 show lU (dB P pr o.op (cD P pr true n) (dP (bF f i).del L) V (eD (cF (bF f i).un recs []) st) fT) _=_
 have:dB P pr o.op (cD P pr true n) (dP (bF f i).del L) V (eD (cF (bF f i).un recs []) st) fT=some (.u,⟨Tr.put (some ⟨blk.cells.take off++c.cells++blk.cells.drop (off+c.cells.length),blk.exact⟩) (bet k).1 st.heap,st.nxt,st.ro,(eD (cF (bF f i).un recs []) st).hid⟩):=by
  rw[B]
  show aBU P t xa xv _ V _ fT=_
  unfold aBU
  rw[a0]
  show cE xa _ V _=_
  rw[ea,ec]
  show eQ (eD (cF (bF f i).un recs []) st) (bet k).1 _=_
  rw[gX u' ⟨by rw[aBr];exact h1,h3.nm⟩,dG (beq_true (by rw[xI,g'];exact C.2.2.1)),dG (uO tcc C.2.2.2),aAm _ _ _ _ (by omega)]
  unfold nJ
  rw[aAF (show(eD (cF (bF f i).un recs []) st).ro<=_ from bIO (show st.ro<=n0 from H.ro) (H.rng k J.1).1)]
  rfl
 rw[this]
 show bT (kY _ _ (bF f i).un recs) (rest _ (fV o.dst .u L) V _ kk) none=_
 rw[dG (aDz h G)]
 rfl
theorem aY1(m':mK P pr orc)(h:OI f n0 O s0 b0 F0 V i N st s bet F L r b recs)(u:eS f=true){o:bQg}(Q:f[i]? =some o){e:bB}(he:ER st.heap bet s.dom F .nil V e){v:TV}(q:iC P orc e o (bF f i) b (dZ (bF f i).del r) s=some (v,s',b')):
  rQ P pr f n0 O s0 b0 F0 V i o L r recs st v s' b':=by
 unfold iC at q
 split at q
 ·next hs=>
  split at q
  ·next hq=>exact aZM h u Q hs hq q
  ·cases q
 ·next a hs=>
  split at q
  ·next C=>
   rw[bIN]at C
   have B:∃t,o.op= .load t a:=by
    generalize o.op=op at hs
    unfold eT at hs
    split at hs<;>first|(cases hs;done)|(cases hs;exact⟨_,rfl⟩)
   obtain⟨t,B⟩:=B
   split at q
   ·next y hy=>
    cases q
    simp only[bIL,bIM]at hy
    obtain⟨av,qa,⟨w,s1⟩,qo,q⟩:=hy
    simp only[Prod.mk.injEq]at q
    obtain⟨rfl,rfl,rfl⟩:=q
    exact aYU h u Q B C.1 C.2 qa qo
   ·simp only[bIL,bIM]at q
    obtain⟨av,qa,⟨w,s1⟩,qo,q⟩:=q
    simp only[Prod.mk.injEq]at q
    obtain⟨rfl,rfl,rfl⟩:=q
    exact aWf h u Q B C.1 C.2 qa qo
  ·cases q
 ·next hs=>
  split at q
  ·next t xa xv B=>
   have S:o.op= .store t xa xv:=B
   split at q
   ·next Y=>
    split at q
    ·next G=>
     rw[bIM]at q
     obtain⟨⟨w,s1⟩,qo,q⟩:=q
     simp only[Prod.mk.injEq]at q
     obtain⟨rfl,rfl,rfl⟩:=q
     exact aUO h u Q S Y G qo
    ·cases q
   ·next Y=>
    have Y:(bF f i).tot=false:=by simpa using Y
    simp only[bIL]at q
    obtain⟨av,qa,q⟩:=q
    split at q
    ·next k off=>
     simp only[bIL]at q
     obtain⟨ad,qad,q⟩:=q
     split at q
     ·next C=>
      simp only[bIN,bJi]at C
      rw[bIM]at q
      obtain⟨⟨w,s1⟩,qo,q⟩:=q
      simp only[Prod.mk.injEq]at q
      obtain⟨rfl,rfl,rfl⟩:=q
      exact aWx h u Q he S Y qa qad C.1 C.2 qo
     ·cases q
    ·cases q
  ·next g args E B=>
   split at q
   ·next C=>
    simp only[bIN,bJi]at C
    simp only[bIL]at q
    obtain⟨ad,qad,⟨w,s1⟩,qo,q⟩:=q
    split at q
    ·next a3=>
     simp only[Option.some.injEq,Prod.mk.injEq]at q
     obtain⟨rfl,rfl,rfl⟩:=q
     have S:o.op= .call ⟨.value g,args,E⟩:=B
     exact aYX m' h u Q he S C.1 C.2 qad qo a3
    ·cases q
   ·cases q
  ·next args E B=>
   have S:o.op= .call ⟨.builtin .append,args,E⟩:=B
   simp only[bIL]at q
   obtain⟨l,ql,q⟩:=q
   split at q
   ·next k off len sz m=>
    split at q
    ·next C=>
     rw[bIN]at C
     rw[bIM]at q
     obtain⟨⟨w,s1⟩,qo,q⟩:=q
     simp only[Prod.mk.injEq]at q
     obtain⟨rfl,rfl,rfl⟩:=q
     exact aV9 h u Q S C.1 C.2 qo
    ·cases q
   ·next c'=>
    split at q
    ·next hc=>
     simp only[bIL]at q
     obtain⟨x,qx,q⟩:=q
     split at q
     ·next a'=>
      rw[bIM]at q
      obtain⟨⟨w,s1⟩,qo,q⟩:=q
      simp only[Prod.mk.injEq]at q
      obtain⟨rfl,rfl,rfl⟩:=q
      exact aUZ h u Q he S hc qx ql (fun k off len sz m e=>c' k off len sz m e) a' qo
     ·cases q
    ·cases q
  ·next args E B=>
   have S:o.op= .call ⟨.builtin .copy,args,E⟩:=B
   split at q
   ·next C=>
    rw[bIN]at C
    rw[bIM]at q
    obtain⟨⟨w,s1⟩,qo,q⟩:=q
    simp only[Prod.mk.injEq]at q
    obtain⟨rfl,rfl,rfl⟩:=q
    exact bA3 h u Q S C.1 C.2 qo
   ·cases q
  ·next a4 b3 b4 b5=>
   split at q
   ·next hq=>
    simp only[bIL]at q
    obtain⟨x,qx,q⟩:=q
    refine aZx h u Q he hs ?_ hq qx q
    cases B:o.op<;>first|rfl|(exact absurd B (a4 _ _ _))
   ·cases q
theorem bAL(m':mK P pr orc){all:Array bQg}(_G:all.toList=f)(u:eS f=true){e:bB}(he:ER O.heap b0 s0.dom F0 .nil V e):∀(m:Nat) {i:Nat} {N:Nat->Nat} {st:St} {s:VS} {bet:Nat->Id×Nat} {F:Id->Prop} {L:aQ} {r:bB} {b:VO} {recs:List dI} {r':bB} {s':VS},i+m=f.length->
  OI f n0 O s0 b0 F0 V i N st s bet F L r b recs->mL P orc all e ((gL true f).drop i) b r s=some (r',s')->
  ∃L' st' bet' F',cY n0 O s0 b0 F0 st' s' bet' F'/\ER st'.heap bet' s'.dom F' L' V r'/\rU L' f/\∃M,∀n,M<=n->∀k,qO P pr all (cD P pr true n) ((gL true f).drop i) recs L V st k=k L' st':=by
 intro m
 induction m with
 | zero=>
  intro i N st s bet F L r b recs r' s' W h q
  have e1:(gL true f).drop i=[]:=bMd (by rw[aLh];omega)
  rw[e1]at q
  simp only[mL,Option.some.injEq,Prod.mk.injEq]at q
  obtain⟨rfl,rfl⟩:=q
  refine⟨L,st,bet,F,h.step,fun t v Y=> ?_, ?_,0,fun n _ k=>by rw[e1];rfl⟩
  ·obtain⟨a,h1,h2⟩:=h.slot t v Y
   rcases h2 with ⟨_,h2⟩|⟨_,j,_,_,h2⟩
   ·exact⟨a,h1,aFA h2⟩
   ·exact⟨a,h1,aFA h2⟩
  ·have:=h.has
   rwa [bJ2 (by omega)]at this
 | succ m ih=>
  intro i N st s bet F L r b recs r' s' W h q
  have v':i<f.length:=by omega
  have Q:f[i]? =some f[i]:=by simp [v']
  have hg:=aLt (ext:=true) Q
  obtain⟨a5,a6⟩:=bJs.1 hg
  have e1:(gL true f).drop i=(f[i],bF f i)::(gL true f).drop (i+1):=by
   rw[bKH a5,a6]
  rw[e1]at q ⊢
  simp only[mL,bIL]at q
  obtain⟨g,qg,q⟩:=q
  have a7:ER st.heap bet s.dom F .nil V e:=ER.mono h.step.sb he
  have K:=h.seen u v'
  have unf:∀n k,qO P pr all (cD P pr true n) ((f[i],bF f i)::(gL true f).drop (i+1)) recs L V st k=aC6 P all f[i] (bF f i) (dB P pr f[i].op (cD P pr true n)) (qO P pr all (cD P pr true n) ((gL true f).drop (i+1))) recs L V st k:=fun n k=>rfl
  have stp:∀n k,aC6 P all f[i] (bF f i) (dB P pr f[i].op (cD P pr true n)) (qO P pr all (cD P pr true n) ((gL true f).drop (i+1))) recs L V st k=if g then nP P f[i] (bF f i) (dB P pr f[i].op (cD P pr true n)) (qO P pr all (cD P pr true n) ((gL true f).drop (i+1))) recs L V st k else aKe f[i] (qO P pr all (cD P pr true n) ((gL true f).drop (i+1))) recs L V st k:=fun n k=>by
   unfold aC6
   cases w':(f[i]).guard with
   |none=>
    rw[w']at qg
    simp only[yI,Option.some.injEq]at qg
    subst qg
    rfl
   |some gg=>
    rw[w']at qg
    exact aJo K qg _ _
  cases g with
  |true=>
   simp only[if_true,bIL]at q
   obtain⟨⟨v,s1,b1⟩,q1,q⟩:=q
   obtain⟨N',st',bet',F',L',recs',h',M1,a8⟩:=aY1 (pr:=pr) m' h u Q a7 q1
   obtain⟨L2,n',bet2,F2,k1,k2,k3,M2,o'⟩:=ih (by omega) h' q
   refine⟨L2,n',bet2,F2,k1,k2,k3,max M1 M2,fun n hn k=> ?_⟩
   rw[unf,stp,if_pos rfl,a8 n (by omega)]
   exact o' n (by omega) k
  | false=>
   simp only[bIY,if_false]at q
   have h':=h.next2 (o:=f[i]) (v:= .u) (a:= .u) (b':=b.note .q) (R:=⟨st.nxt.nat,st.nxt.nat,[(0,st.nxt.nat)],[],none,st.heap,st.heap,false⟩) u Q (cY.refl h.step.inv) (.inl ⟨rfl,.u⟩) (fun hc=>⟨hc,fun k _ hh=>⟨hh,rfl,rfl⟩,fun k h1 h2=>absurd h1 (by omega)⟩) rfl rfl rfl trivial
    ⟨rfl,rfl,rfl,fun y hy=>rL (p:=(0,st.nxt.nat)) (.head _) (bIR _) hy⟩ (fun _ k ad e=>by cases e)
   obtain⟨L2,n',bet2,F2,k1,k2,k3,M2,o'⟩:=ih (by omega) h' q
   refine⟨L2,n',bet2,F2,k1,k2,k3,M2,fun n hn k=> ?_⟩
   rw[unf,stp,if_neg (by decide)]
   exact o' n hn k
theorem aDo(m':mK P pr orc):aAA P pr orc:=by
 intro n0 U f V st s s' bet F e r' H he B b6 q
 have h:OI f.toList n0 st s bet F V 0 (fun _=>st.nxt.nat) st s bet F .nil e ⟨[],true,[]⟩ []:=by
  have allOld:∀id:Id,id.nat<st.nxt.nat->jL (fun _=>st.nxt.nat) id.nat:=fun id h=>h
  have up:Sb st.heap bet s.dom F st.heap bet (KP s bet (jL fun _=>st.nxt.nat)) (FP F (jL fun _=>st.nxt.nat)):=⟨fun _ _=>rfl,fun id h=>⟨h,H.lt id h⟩,fun k J=>⟨J,(H.rng k J).2⟩,fun _ _=>rfl⟩
  refine⟨cY.refl H,rfl,H.low,rfl,fun j hj=>absurd hj (by omega),fun t v Y=> ?_,fun o Q=>(by simp at Q),fun _ k J hh=> ?_,rfl,rfl,fun j hj=>absurd hj (by omega)⟩
  ·obtain⟨a,h1,h2⟩:=he t v Y
   exact⟨a,h1,.inl ⟨by simp,h2.mono up⟩⟩
  ·obtain⟨blk,h1,h2,h3⟩:=H.obj k J hh
   exact⟨_,.inl ⟨(H.rng k J).2,rfl⟩,blk,h1,h2,h3.mono up⟩
 have q':mL P orc f e ((gL true f.toList).drop 0) ⟨[],true,[]⟩ e s=some (r',s'):=q
 obtain⟨L',st',bet',F',k1,k2,k3,M,hM⟩:=bAL m' rfl B he f.toList.length (by omega) h q'
 exact⟨L',st',bet',F',k1,k2,k3,M,hM⟩
end
end
section
open Go Go.RowKit
mutual
inductive WT(w:bQ9):bQa->TV->Prop
 |b (x:Bool):WT w (.bool x) (.b x)
 |int (k:bQc) (z:Int):WT w (.int k z) (.int k z)
 |str (x:ByteArray):WT w (.string x) (.str x)
 |lit {x:bQa} (h:aGf x):WT w x (.lit x)
 |err (t:bQb) (v:bQa):WT w (.iface t v) .err
 |u:WT w undef .u
 |nil:WT w (.slice none 0 0) .nil
 |imn (sz:Nat):WT w (.slice none 0 0) (.im sz [])
 |im0 (a:Addr) (c sz:Nat):WT w (.slice (some a) 0 c) (.im sz [])
 |im {p off len c sz:Nat} {cs:Array bQa} {el:bQb} {fr:Nat×Nat} {ts:List TV} (d:w.heap[p]? =some (.cells cs el fr)) (j:len<=c) (hs:off+c*sz<=cs.size) (hc:cW w ((cs.toList.drop off).take (len*sz)) ts):WT w (.slice (some ⟨p,off,none⟩) len c) (.im sz ts)
 |e0 {p off sz:Nat} {cs:Array bQa} {el:bQb} {fr:Nat×Nat} (d:w.heap[p]? =some (.cells cs el fr)) (hs:off<=cs.size):WT w (.slice (some ⟨p,off,none⟩) 0 0) (.e0 sz)
 |fn {f:Nat} {a b:List bQa} {va vb:List TV} (A:cW w a va) (B:cW w b vb):WT w (.func (.func f) a.toArray b.toArray) (.fn f va vb)
 |ag {vs:List bQa} {ts:List TV} (h:cW w vs ts):WT w (.agg vs.toArray) (.ag ts)
 |tp {vs:List bQa} {ts:List TV} (h:cW w vs ts):WT w (.tuple vs.toArray) (.tp ts)
 |emn:WT w (.slice none 0 0) .em
 |ems (a:Addr) (c:Nat):WT w (.slice (some a) 0 c) .em
inductive cW(w:bQ9):List bQa->List TV->Prop
 |nil:cW w [] []
 |cons {v:bQa} {t:TV} {vs:List bQa} {ts:List TV} (h:WT w v t) (j:cW w vs ts):cW w (v::vs) (t::ts)
end
mutual
theorem WT.closed{w:bQ9}{v:bQa}{t:TV}(h:WT w v t):cI t=true:=by
 cases h with
 |im d j hs hc=>simpa only[cI]using cW.closed hc
 |fn A B=>simp only[cI,cW.closed A,cW.closed B,bJv]
 |ag h=>simpa only[cI]using cW.closed h
 |tp h=>simpa only[cI]using cW.closed h
 |_=>rfl
theorem cW.closed{w:bQ9}{v:List bQa}{t:List TV}(h:cW w v t):dR t=true:=by
 cases h with
 |nil=>rfl
 |cons h j=>simp only[dR,WT.closed h,cW.closed j,bJv]
end
mutual
theorem WT.ext{w w':bQ9}(hx:∀p,p<w.heap.size->w'.heap[p]? =w.heap[p]?){v:bQa}{t:TV}(h:WT w v t):WT w' v t:=by
 cases h with
 |b x=>exact .b x
 |int k z=>exact .int k z
 |str x=>exact .str x
 |lit h=>exact .lit h
 |err t v=>exact .err t v
 |u=>exact .u
 |nil=>exact .nil
 |imn=>exact .imn _
 |im0=>exact .im0 _ _ _
 |im d j hs hc=>exact .im (by rw[hx _ (by rcases bIT _ w.heap.size with h|h;exact h;rw[bLc h]at d;cases d)];exact d) j hs (cW.ext hx hc)
 |e0 d hs=>exact .e0 (by rw[hx _ (by rcases bIT _ w.heap.size with h|h;exact h;rw[bLc h]at d;cases d)];exact d) hs
 |fn A B=>exact .fn (cW.ext hx A) (cW.ext hx B)
 |ag h=>exact .ag (cW.ext hx h)
 |tp h=>exact .tp (cW.ext hx h)
 |emn=>exact .emn
 |ems=>exact .ems _ _
theorem cW.ext{w w':bQ9}(hx:∀p,p<w.heap.size->w'.heap[p]? =w.heap[p]?){v:List bQa}{t:List TV}(h:cW w v t):cW w' v t:=by
 cases h with
 |nil=>exact .nil
 |cons h j=>exact .cons (WT.ext hx h) (cW.ext hx j)
end
structure Pre(h:Tr)(n:Id)(Γ:aP)(F:Id->Prop)(w:bQ9):Prop where
 blk:∀id b,Tr.find id h=some b->∃p s,Γ id=some (p,s)/\p<w.heap.size/\BR Γ b s (aB2 w.heap[p]?)
 fresh:∀id:Id,n.nat<=id.nat->Γ id=none
 top:∀id:Id,n.nat<=id.nat->Tr.find id h=none
 glob:pT Γ
 lt:∀id,F id->id.nat<n.nat
structure tM(h:Tr)(n:Id)(Γ:aP)(F:Id->Prop)(h':Tr)(n':Id)(Γ':aP)(F':Id->Prop)(w:bQ9):Prop where
 pre:Pre h' n' Γ' F' w
 le:aP.le Γ Γ'
 sub:∀id,F id->F' id
 fix:∀id:Id,id.nat<n.nat->Tr.find id h'=Tr.find id h
 nx:n.nat<=n'.nat
theorem tM.trans{w:bQ9}{h1 h2 h3:Tr}{n1 I n3:Id}{G1 G2 G3:aP}{F1 F2 F3:Id->Prop}(a:tM h1 n1 G1 F1 h2 I G2 F2 w)(b:tM h2 I G2 F2 h3 n3 G3 F3 w):tM h1 n1 G1 F1 h3 n3 G3 F3 w:=
 ⟨b.pre,aP.le_trans a.le b.le,fun id h=>b.sub id (a.sub id h),fun id h=>(b.fix id (bIP h a.nx)).trans (a.fix id h),bIO a.nx b.nx⟩
theorem tM.sb{w:bQ9}{h1 h2:Tr}{n1 I:Id}{G1 G2:aP}{F1 F2:Id->Prop}(d:Pre h1 n1 G1 F1 w)(a:tM h1 n1 G1 F1 h2 I G2 F2 w):Sb h1 eG eJ F1 h2 eG eJ F2:=
 ⟨fun id h=>a.fix id (d.lt id h),a.sub,fun _ h=>h,fun _ _=>rfl⟩
theorem bAj(v:bQa):∃a:AV,∀Γ,CR Γ a v:=by
 have main:∀n (v:bQa),SizeOf.sizeOf v<n->∃a:AV,∀Γ,CR Γ a v:=by
  intro n
  induction n with
  |zero=>intro v h;omega
  | succ n ih=>
   intro v C
   have many:∀l:List bQa,(∀x∈l,SizeOf.sizeOf x<n)->∃aS:List AV,∀Γ,bU Γ aS l:=by
    intro l
    induction l with
    |nil=>intro _;exact⟨[],fun _=> .nil⟩
    |cons x l Z=>
     intro j
     obtain⟨a,A⟩:=ih x (j x (.head _))
     obtain⟨aS,has⟩:=Z fun y hy=>j y (.tail _ hy)
     exact⟨a::aS,fun Γ=> .cons (A Γ) (has Γ)⟩
   by_cases h1:∃cs,v= .agg cs
   ·obtain⟨cs,rfl⟩:=h1
    obtain⟨aS,has⟩:=many cs.toList fun x hx=>by
     have:=Array.sizeOf_lt_of_mem (Array.mem_toList_iff.1 hx)
     simp only[Value.agg.sizeOf_spec]at C
     omega
    exact⟨.agg aS,fun Γ=> .agg (has Γ)⟩
   ·by_cases h2:∃cs,v= .tuple cs
    ·obtain⟨cs,rfl⟩:=h2
     obtain⟨aS,has⟩:=many cs.toList fun x hx=>by
      have:=Array.sizeOf_lt_of_mem (Array.mem_toList_iff.1 hx)
      simp only[Value.tuple.sizeOf_spec]at C
      omega
     exact⟨.tup aS,fun Γ=> .tup (has Γ)⟩
    ·exact⟨.v v,fun Γ=> .v ⟨fun cs e=>h1 ⟨cs,e⟩,fun cs e=>h2 ⟨cs,e⟩⟩⟩
 exact main _ v (bIZ _)
theorem aN3:∀l:List bQa,∃aS:List AV,∀Γ,bU Γ aS l
 | []=>⟨[],fun _=> .nil⟩
 |v::l=>by
  obtain⟨a,A⟩:=bAj v
  obtain⟨aS,has⟩:=aN3 l
  exact⟨a::aS,fun Γ=> .cons (A Γ) (has Γ)⟩
theorem bU.nm{Γ:aP}{l:List AV}{m:List bQa}(q:bU Γ l m):mP l=false:=by
 cases q with
 |nil=>rfl
 | cons A j=>cases A with
  |v hx=>
   rename_i x _ _
   show aDF x=false
   unfold aDF
   split
   ·exact absurd rfl (hx.1 _)
   ·rfl
  |_=>rfl
section
variable {w:bQ9}
theorem aIZ{p:Nat}{o:Obj}(d:w.heap[p]? =some o):p<w.heap.size:=by
 rcases bIT p w.heap.size with h|h
 ·exact h
 ·rw[bLc h]at d;cases d
theorem Pre.add{h:Tr}{n:Id}{Γ:aP}{F:Id->Prop}(d:Pre h n Γ F w){p off:Nat}{cs:Array bQa}{el:bQb}{fr:Nat×Nat}(H:w.heap[p]? =some (.cells cs el fr)){m:Nat}{aS:List AV}(A:bU Γ aS ((cs.toList.drop off).take m))(hs:off+m<=cs.size):
  ∃b:cH,tM h n Γ F (Tr.put (some b) n h) (Id.succ n) (Γ.add n p cs.size) (fun id=>F id\/id=n) w/\FC (Tr.put (some b) n h) n b/\b.cells.length=off+m/\(b.cells.drop off).take m=aS:=by
 obtain⟨pre,J⟩:=aN3 (cs.toList.take off)
 have hn:Γ n=none:=d.fresh _ (bIK _)
 have r:aP.le Γ (Γ.add n p cs.size):=aP.add_le hn _ _
 have a':pre.length=off:=by rw[(J Γ).length];simp;omega
 have c':aS.length=m:=by rw[A.length];simp;omega
 have K:bU Γ (pre++aS) (cs.toList.take (off+m)):=by
  have:cs.toList.take (off+m)=cs.toList.take off++(cs.toList.drop off).take m:=by rw[List.take_add]
  rw[this]
  exact(J Γ).app A
 have L:(pre++aS).length=off+m:=by simp [a',c']
 refine⟨⟨pre++aS,false⟩,⟨⟨fun id b B=> ?_,fun id hid=> ?_,fun id hid=> ?_,d.glob.mono r, ?_⟩,r,fun _ h=> .inl h,fun id hid=>Tr.put_other _ _ _ _ (fun e=>by rw[e]at hid;omega),by rw[Id.nat_succ];omega⟩,⟨Tr.put_same _ _ _,K.nm⟩,L, ?_⟩
 ·by_cases e:id=n
  ·subst e
   rw[Tr.put_same]at B
   cases B
   exact⟨p,cs.size,aP.add_self _ _ _ _,aIZ H,BR.of (by rw[H];rfl) rfl (by show(pre++aS).length<=_;omega) (by show bU _ (pre++aS) (cs.toList.take (pre++aS).length);rw[L];exact K.mono r) (fun h=>by cases h)⟩
  ·rw[Tr.put_other _ _ _ _ (fun e'=>e e'.symm)]at B
   obtain⟨q,s,h1,h2,h3⟩:=d.blk id b B
   exact⟨q,s,r _ _ h1,h2,h3.mono r⟩
 ·rw[Id.nat_succ]at hid
  rw[aP.add_ne _ (fun e=>by rw[e]at hid;omega)]
  exact d.fresh id (by omega)
 ·rw[Id.nat_succ]at hid
  rw[Tr.put_other _ _ _ _ (fun e=>by rw[←e]at hid;omega)]
  exact d.top id (by omega)
 ·rintro id (M|rfl)
  ·rw[Id.nat_succ];have:=d.lt id M;omega
  ·rw[Id.nat_succ];omega
 ·show((pre++aS).drop off).take m=aS
  rw[List.drop_append_of_le_length (by omega),bMd (by omega),bJO,bJ2 (by omega)]
mutual
theorem WT.build{v:bQa}{t:TV}(q:WT w v t){h:Tr}{n:Id}{Γ:aP}{F:Id->Prop}(d:Pre h n Γ F w):∃h' n' Γ' F' a,tM h n Γ F h' n' Γ' F' w/\CR Γ' a v/\TR h' eG eJ F' a t:=by
 have rf:tM h n Γ F h n Γ F w:=⟨d,aP.le_refl _,fun _ h=>h,fun _ _=>rfl,bIK _⟩
 cases q with
 |b x=>exact⟨h,n,Γ,F,.b x,rf,.b x,.b x⟩
 |int k z=>cases z with
  |ofNat m=>exact⟨h,n,Γ,F,.i k m,rf,.i k m,.i k m⟩
  |negSucc m=>exact⟨h,n,Γ,F,.m k m,rf,.m k m,.m k m⟩
 |str x=>exact⟨h,n,Γ,F,.v (.string x),rf,.v ⟨fun _ e=>(by cases e),fun _ e=>(by cases e)⟩,.str x⟩
 |lit hx=>exact⟨h,n,Γ,F,.v v,rf,.v hx,.lit v hx⟩
 |err t u=>exact⟨h,n,Γ,F,.fn (.yield 2) [] [],rf,.anyE t u,.err⟩
 |u=>exact⟨h,n,Γ,F,.u,rf,.u,.u⟩
 |nil=>exact⟨h,n,Γ,F,.v (.slice none 0 0),rf,.v ⟨fun _ e=>(by cases e),fun _ e=>(by cases e)⟩,.nil⟩
 |imn sz=>exact⟨h,n,Γ,F,.v (.slice none 0 0),rf,.v ⟨fun _ e=>(by cases e),fun _ e=>(by cases e)⟩,.imv sz⟩
 |im0 a c sz=>exact⟨h,n,Γ,F,.se,rf,.se a c,.imse sz⟩
 |im H j hs hc=>
  rename_i p off len c sz cs el fr ts
  obtain⟨h1,n1,Γ1,F1,aS,s1,c1,t1⟩:=cW.build hc d
  have r:off+len*sz<=cs.size:=bIO (Nat.add_le_add_left (bJ8 _ j) _) hs
  obtain⟨b,E,hf,d',O⟩:=s1.pre.add H c1 r
  refine⟨_,_,_,_,.sl n1 off len none sz,s1.trans E,.sl (aP.add_self _ _ _ _) j (fun k e=>by cases e) hs,.im (.inr rfl) hf (by omega) ?_⟩
  rw[O]
  exact t1.mono (E.sb s1.pre)
 |e0 H hs=>
  rename_i p off sz cs el fr
  obtain⟨b,E,hf,d',O⟩:=d.add (off:=off) (m:=0) (aS:=[]) H (by simpa using(bU.nil:bU Γ [] [])) (by omega)
  exact⟨_,_,_,_,.sl n off 0 (some 0) sz,E,.sl (aP.add_self _ _ _ _) (bIK _) (fun k e=>by cases e;rfl) (by omega),.e0 (.inr rfl) hf (by omega)⟩
 |fn A B=>
  obtain⟨h1,n1,Γ1,F1,a1,s1,c1,t1⟩:=cW.build A d
  obtain⟨h2,I,Γ2,F2,a2,E,c2,t2⟩:=cW.build B s1.pre
  exact⟨h2,I,Γ2,F2,.fn (.func _) a1 a2,s1.trans E,.fn (c1.mono E.le) c2,.fn (t1.mono (E.sb s1.pre)) t2⟩
 |ag j=>
  obtain⟨h1,n1,Γ1,F1,a1,s1,c1,t1⟩:=cW.build j d
  exact⟨h1,n1,Γ1,F1,.agg a1,s1,.agg c1,.ag t1⟩
 |tp j=>
  obtain⟨h1,n1,Γ1,F1,a1,s1,c1,t1⟩:=cW.build j d
  exact⟨h1,n1,Γ1,F1,.tup a1,s1,.tup c1,.tp t1⟩
 |emn=>exact⟨h,n,Γ,F,.v (.slice none 0 0),rf,.v ⟨fun _ e=>(by cases e),fun _ e=>(by cases e)⟩,.emv⟩
 |ems a c=>exact⟨h,n,Γ,F,.se,rf,.se a c,.emse⟩
theorem cW.build{v:List bQa}{t:List TV}(q:cW w v t){h:Tr}{n:Id}{Γ:aP}{F:Id->Prop}(d:Pre h n Γ F w):∃h' n' Γ' F' a,tM h n Γ F h' n' Γ' F' w/\bU Γ' a v/\bO h' eG eJ F' a t:=by
 cases q with
 |nil=>exact⟨h,n,Γ,F,[],⟨d,aP.le_refl _,fun _ h=>h,fun _ _=>rfl,bIK _⟩,.nil,.nil⟩
 |cons C j=>
  obtain⟨h1,n1,Γ1,F1,a1,s1,c1,t1⟩:=WT.build C d
  obtain⟨h2,I,Γ2,F2,a2,E,c2,t2⟩:=cW.build j s1.pre
  exact⟨h2,I,Γ2,F2,a1::a2,s1.trans E,.cons (c1.mono E.le) c2,.cons (t1.mono (E.sb s1.pre)) t2⟩
end
mutual
theorem TR.world{st:St}{Γ:aP}{F:Id->Prop}(hs:dL st Γ w)(C:∀id,F id->st.vis id){a:AV}{t:TV}(q:TR st.heap eG eJ F a t)(hc:cI t=true){v:bQa}(c:CR Γ a v):WT w v t:=by
 cases q with
 |b x=>cases c;exact .b x
 |i k m=>cases c;exact .int k _
 |m k m=>cases c;exact .int k _
 |str x=>cases c;exact .str x
 |lit x=>cases c with |v h=>exact .lit h
 |err=>cases c with |anyE t v=>exact .err t v
 |u=>cases c;exact .u
 |nil=>cases c;exact .nil
 |imv sz=>cases c;exact .imn sz
 |imse sz=>cases c;exact .im0 _ _ sz
 | im M hf j f'=>
  rename_i id off len cap sz blk ts
  cases c with
  | sl hΓ Q G hsz=>
   rename_i p s c
   obtain⟨p',s',g1,g2,cs,el,g3,rfl,g5,g6,_⟩:=hs.blkc id blk ⟨⟨C id M,hf.hf⟩,hf.nm⟩
   rw[hΓ]at g1
   cases g1
   have g7:=(g6.drop off).take (len*sz)
   have e:((cs.toList.take blk.cells.length).drop off).take (len*sz)=(cs.toList.drop off).take (len*sz):=by
    rw[List.drop_take,bJC,bJc (by omega)]
   rw[e]at g7
   exact .im g3 Q hsz (bO.world hs C f' (by simpa only[cI]using hc) g7)
 | e0 M hf j=>
  rename_i id off sz blk
  cases c with
  |sl hΓ Q G hsz=>
   rename_i p s c
   obtain⟨p',s',g1,g2,cs,el,g3,rfl,g5,g6,_⟩:=hs.blkc id blk ⟨⟨C id M,hf.hf⟩,hf.nm⟩
   rw[hΓ]at g1
   cases g1
   have:c=0:=G 0 rfl
   subst this
   exact .e0 g3 (by omega)
 |ow=>simp [cI]at hc
 |po=>simp [cI]at hc
 |pi=>simp [cI]at hc
 |fn A B=>
  simp only[cI,bIN]at hc
  cases c with |fn ca cb=>exact .fn (bO.world hs C A hc.1 ca) (bO.world hs C B hc.2 cb)
 |ag h=>cases c with |agg cl=>exact .ag (bO.world hs C h (by simpa only[cI]using hc) cl)
 |tp h=>cases c with |tup cl=>exact .tp (bO.world hs C h (by simpa only[cI]using hc) cl)
 |emv=>cases c;exact .emn
 |emse=>cases c;exact .ems _ _
 |ems M hf j=>cases c with |sl hΓ Q G hsz=>exact .ems _ _
theorem bO.world{st:St}{Γ:aP}{F:Id->Prop}(hs:dL st Γ w)(C:∀id,F id->st.vis id){a:List AV}{t:List TV}(q:bO st.heap eG eJ F a t)(hc:dR t=true){v:List bQa}(c:bU Γ a v):cW w v t:=by
 cases q with
 |nil=>cases c;exact .nil
 |cons A j=>
  simp only[dR,bIN]at hc
  cases c with |cons ca cl=>exact .cons (TR.world hs C A hc.1 ca) (bO.world hs C j hc.2 cl)
end
end
theorem aHv{P:bQe}{pr:cM}(U:P.follows .mixedOrders=true)(g':lE P pr)(i':mD P){f:bQf}{ts:List TV}{R:TV}{own:Bool}(h:jT P pr f ts R own){w:bQ9}(S:fX w){vs:List bQa}(H:cW w vs ts):
  Calls P f vs.toArray w fun e w'=>∃v,e= .returned v/\Below w.heap.size w w'/\WT w' v (pM R own):=by
 obtain⟨sz,S⟩:=S
 have j':Pre (aAX nD) (hH G0) (aP.own sz) (fun _=>False) w:=by
  refine⟨fun id b B=> ?_,fun id hid=> ?_,fun id hid=> ?_,fun g hg=>⟨sz g,aP.own_gid _ hg⟩,fun _ h=>h.elim⟩
  ·obtain⟨g,h1,rfl⟩:=aNd B
   obtain⟨h2,h3⟩:=S _ h1
   exact⟨g,sz g,aP.own_gid sz (aIg _ h1),h2,h3⟩
  ·rw[aBC]at hid
   rw[aP.own_at,if_neg (by omega)]
  ·cases hf:Tr.find id (aAX nD)with
   |none=>rfl
   |some b=>
    obtain⟨g,h1,rfl⟩:=aNd hf
    have:=aIg _ h1
    rw[aBC,aBC]at hid
    simp only at this;omega
 obtain⟨hh,n,Γ,F,aS,s1,c1,t1⟩:=H.build j'
 let st:St:=⟨hh,n,n.nat,[]⟩
 let Γ':aP:=⟨Γ.f,n.nat⟩
 have r:aP.le Γ Γ':=fun _ _ h=>h
 have V:dL st Γ' w:=⟨fun id b B=>by
  obtain⟨p,s,g1,g2,g3⟩:=s1.pre.blk id b B.2
  refine⟨p,s,g1,g2, ?_⟩
  rw[zT,if_pos (by
   rcases bIT id.nat n.nat with h|h
   ·exact h
   ·have:=s1.pre.top id h
    rw[show Tr.find id hh=some b from B.2]at this;cases this)]
  exact g3.mono r,fun id k' b b' p s s' h1 h2 h3 _ _=>by
   have lt:∀ {id:Id} {b:cH},st.look id b->id.nat<n.nat:=fun {id b} j=>by
    rcases bIT id.nat n.nat with h|h
    ·exact h
    ·have:=s1.pre.top id h
     rw[show Tr.find id hh=some b from j.2]at this;cases this
   have l1:=lt h1
   have l2:=lt h2
   rcases h3 with h3|h3
   ·have h3:n.nat<=id.nat:=h3
    omega
   ·have h3:n.nat<=k'.nat:=h3
    omega,fun id hid=>s1.pre.fresh id hid,fun id hid=>s1.pre.top id hid,s1.pre.glob.mono r,bIK _⟩
 obtain⟨a,st',F',W,N,hN⟩:=h st aS F (aCB H.closed) t1 (fun id M=>s1.pre.lt id M) (fun id _ p d=>by cases d) (bIK _) (fun p d=>by cases d) (fun q hq=>by
  have j:(hH q.1).nat<(hH G0).nat:=by have:=aIg q hq;rw[aBC,aBC];omega
  exact⟨bIP j s1.nx,(s1.fix _ j).trans (bBl q hq),fun p d=>by cases d⟩)
 have X:pW P pr true N f aS st (fun a st=>some (a,st))=some (a,st'):=hN N (bIK _) _
 refine Calls.mono (aYV U g' i' X V (c1.mono r)) ?_
 rintro e w' ⟨v,Γ2,rfl,D,l'⟩
 refine⟨v,rfl,⟨D.os,D.tape,D.output,D.size,fun q hq=>D.frame q hq fun id b s j T _=> ?_⟩, ?_⟩
 ·have T:n.nat<=id.nat:=T
  have:=s1.pre.top id T
  rw[show Tr.find id hh=some b from j.2]at this;cases this
 ·exact TR.world D.sim (fun id _ p d=>by
   have Y:st'.hid=[]:=W.hq
   rw[Y]at d;cases d) W.tr (by
    unfold pM
    split
    ·cases m':oN R with
     |none=>exact W.cl
     |some t=>exact aHI m' W.cl
    ·exact W.cl) l'
end
section
theorem aXA{orc:cN}{f:bQf}{args:List TV}{s:VS}{x:TV×VS}(q:dD orc f args s=some x):vI orc f args s=some x:=by
 have:(cX cK s args).isSome=true:=by
  cases h:cX cK s args with
  |none=>simp only[dD,h,Option.bind_none]at q;cases q
  |some p=>rfl
 unfold vI
 rw[if_pos this];exact q
theorem bI0{P:bQe}{orc:cN}{op:Op}{r:bB}{s:VS}{x:TV×VS}(q:bG P (dD orc) op r s=some x):bG P (vI orc) op r s=some x:=by
 cases op with
 | call c=>
  obtain⟨c,args,F⟩:=c
  cases c with
  |value g=>
   simp only[bG,bIL]at q ⊢
   obtain⟨gv,B,aa,C,q⟩:=q
   refine⟨gv,B,aa,C, ?_⟩
   cases gv<;>simp only at q ⊢ <;>first|exact aXA q|(cases q;done)
  |_=>exact q
 |makeFunc f a b=>cases f<;>exact q
 |_=>exact q
def gI:bQd->List Nat
 | .tmp t=>[t]
 |_=>[]
def uA(l:List bQd):List Nat:=l.flatMap gI
def aAS:Option bQd->List Nat
 |some x=>gI x
 |none=>[]
def aCg:Op->List Nat
 | .move x=>gI x
 | .assign x=>gI x
 | .pick c a b=>gI c++(gI a++gI b)
 | .box _ v=>gI v
 | .build _ ps=>uA (ps.toList.map (·.2))
 | .buildSlice _ _ ps=>uA (ps.toList.map (·.2))
 | .load _ a=>gI a
 | .store _ a x=>gI a++gI x
 | .nilCheck x=>gI x
 | .binOp _ _ x y _=>gI x++gI y
 | .unOp _ _ x=>gI x
 | .convert _ _ x=>gI x
 | .makeFunc _ a b=>uA a.toList++uA b.toList
 | .makeSlice _ l c=>gI l++gI c
 | .slice _ x lo hi mx=>gI x++(aAS lo++(aAS hi++aAS mx))
 | .fieldAddr _ x _=>gI x
 | .field _ x _=>gI x
 | .indexAddr _ x ix=>gI x++gI ix
 | .index _ x ix=>gI x++gI ix
 | .extract x _=>gI x
 | .call ⟨.builtin _,args,_⟩=>uA args.toList
 | .call ⟨.value g,args,_⟩=>gI g++uA args.toList
 |_=>[]
section
variable {P:bQe}{cal:jM}{M N:bB}
def mT(l:List Nat)(M N:bB):Prop:=∀t∈l,∀v,M t=some v->N t=some v
theorem mT.left{l m:List Nat}(h:mT (l++m) M N):mT l M N:=fun t E=>h t (bKE _ E)
theorem mT.right{l m:List Nat}(h:mT (l++m) M N):mT m M N:=fun t E=>h t (bJL _ E)
theorem gF{x:bQd}(h:mT (gI x) M N){v:TV}(q:dV M x=some v):dV N x=some v:=by
 cases x with
 |tmp t=>exact h t (.head _) v q
 |const _=>exact q
 |global _=>exact q
 |func _=>exact q
theorem aCY:∀ {l:List bQd} (_:mT (uA l) M N) {v:List TV},lN M l=some v->lN N l=some v
 | [],_,v,q=>q
 |x::l,h,v,q=>by
  simp only[lN,bIL]at q ⊢
  obtain⟨a,B,m,C,G⟩:=q
  have h':mT (gI x++uA l) M N:=h
  exact⟨a,gF h'.left B,m,aCY h'.right C,G⟩
theorem pA{x:Option bQd}(h:mT (aAS x) M N){d n:Nat}(q:eM M d x=some n):eM N d x=some n:=by
 cases x with
 |none=>exact q
 |some x=>
  simp only[eM,bIL]at q ⊢
  obtain⟨a,B,C⟩:=q
  exact⟨a,gF h B,C⟩
theorem aIu{place:Nat->Option (Nat×Nat)}:∀ {l:List (Nat×bQd)} (_:mT (uA (l.map (·.2))) M N) {cs v:List TV},aD place M l cs=some v->aD place N l cs=some v
 | [],_,cs,v,q=>q
 | p::l,h,cs,v,q=>by
  simp only[aD,bIL]at q ⊢
  obtain⟨a,B,x,C,q⟩:=q
  have h':mT (gI p.2++uA (l.map (·.2))) M N:=h
  refine⟨a,B,x,gF h'.left C, ?_⟩
  split at q
  ·next hc=>
   rw[if_pos hc]
   simp only[bIL]at q ⊢
   obtain⟨c,G,W⟩:=q
   exact⟨c,G,aIu h'.right W⟩
  ·cases q
theorem aX3{t:bQb}{x:TV}{lo hi mx:Option bQd}(h:mT (aAS lo++(aAS hi++aAS mx)) M N){v:TV}(q:iX P t M x lo hi mx=some v):iX P t N x lo hi mx=some v:=by
 unfold iX at q ⊢
 cases V:cU P t with
 | none=>
  rw[V]at q
  simp only at q ⊢
  cases x<;>simp only at q ⊢ <;>try (cases q;done)
  split at q
  ·next hc=>
   rw[if_pos hc]
   simp only[bIL]at q ⊢
   obtain⟨l,B,m,C,q⟩:=q
   exact⟨l,pA h.left B,m,pA h.right.left C,q⟩
  ·cases q
 | some e=>
  rw[V]at q
  simp only at q ⊢
  split at q
  case isFalse=>cases q
  case isTrue hk=>
  rw[if_pos hk]
  cases mx with
  | none=>
   simp only at q ⊢
   cases x<;>simp only at q ⊢ <;>try (cases q;done)
   ·simp only[bIL]at q ⊢
    obtain⟨l,B,m,C,q⟩:=q
    exact⟨l,pA h.left B,m,pA h.right.left C,q⟩
   ·split at q
    ·next hc=>
     rw[if_pos hc]
     simp only[bIL]at q ⊢
     obtain⟨l,B,m,C,q⟩:=q
     exact⟨l,pA h.left B,m,pA h.right.left C,q⟩
    ·cases q
   ·split at q
    ·next hc=>
     rw[if_pos hc]
     simp only[bIL]at q ⊢
     obtain⟨l,B,m,C,q⟩:=q
     exact⟨l,pA h.left B,m,pA h.right.left C,q⟩
    ·cases q
   ·simp only[bIL]at q ⊢
    obtain⟨l,B,m,C,q⟩:=q
    exact⟨l,pA h.left B,m,pA h.right.left C,q⟩
  |some om=>
   simp only at q ⊢
   split at q
   case isFalse=>cases q
   case isTrue hh=>
   rw[if_pos hh]
   simp only[bIL]at q ⊢
   obtain⟨l,B,m,C,n,G,q⟩:=q
   exact⟨l,pA h.left B,m,pA h.right.left C,n,pA h.right.right G,q⟩
theorem aDp{op:Op}(h:mT (aCg op) M N){s:VS}{y:TV×VS}(q:bG P cal op M s=some y):bG P cal op N s=some y:=by
 cases op<;>try (simp only[bG]at q;cases q;done)
 case move x=>
  simp only[bG,bIM]at q ⊢
  obtain⟨a,B,C⟩:=q
  exact⟨a,gF h B,C⟩
 case assign x=>
  simp only[bG,bIM]at q ⊢
  obtain⟨a,B,C⟩:=q
  exact⟨a,gF h B,C⟩
 case pick c a b=>
  simp only[bG,bIL]at q ⊢
  obtain⟨x,B,t,C,zu,G,w,W,q5⟩:=q
  exact⟨x,gF h.left B,t,C,zu,gF h.right.left G,w,gF h.right.right W,q5⟩
 case alloc e=>exact q
 case box t v=>
  simp only[bG,bIL]at q ⊢
  obtain⟨a,B,C⟩:=q
  exact⟨a,gF h B,C⟩
 case build t ps=>
  simp only[bG]at q ⊢
  split at q
  ·next hc=>
   rw[if_pos hc]
   simp only[bIL,bIM]at q ⊢
   obtain⟨z,B,cs,C,G⟩:=q
   exact⟨z,B,cs,aIu h C,G⟩
  ·cases q
 case buildSlice t len ps=>
  simp only[bG,bIL]at q ⊢
  obtain⟨e,B,q⟩:=q
  refine⟨e,B, ?_⟩
  split at q
  ·next hc=>
   rw[if_pos hc]
   simp only[bIL,bIM]at q ⊢
   obtain⟨z,B,cs,C,G⟩:=q
   exact⟨z,B,cs,aIu h C,G⟩
  ·cases q
 case load t a=>
  simp only[bG]at q ⊢
  split at q
  ·next hc=>
   rw[if_pos hc]
   simp only[bIL,bIM]at q ⊢
   obtain⟨z,B,cs,C,G⟩:=q
   exact⟨z,gF h B,cs,C,G⟩
  ·cases q
 case store t a x=>
  simp only[bG]at q ⊢
  split at q
  ·next hc=>
   rw[if_pos hc]
   simp only[bIL,bIM]at q ⊢
   obtain⟨z,B,zu,C,s',G,W⟩:=q
   exact⟨z,gF h.left B,zu,gF h.right C,s',G,W⟩
  ·cases q
 case nilCheck x=>
  simp only[bG,bIL]at q ⊢
  obtain⟨a,B,C⟩:=q
  exact⟨a,gF h B,C⟩
 case binOp op t x y zu=>
  simp only[bG]at q ⊢
  split at q
  ·next hc=>
   rw[if_pos hc]
   simp only[bIL]at q ⊢
   obtain⟨a,B,b,C,G⟩:=q
   exact⟨a,gF h.left B,b,C,G⟩
  ·next hc=>
   rw[if_neg hc]
   simp only[bIL]at q ⊢
   obtain⟨a,B,b,C,G⟩:=q
   exact⟨a,gF h.left B,b,gF h.right C,G⟩
 case unOp op t x=>
  simp only[bG,bIL]at q ⊢
  obtain⟨a,B,C⟩:=q
  exact⟨a,gF h B,C⟩
 case convert a b x=>
  simp only[bG,bIL]at q ⊢
  obtain⟨k,B,a,C,G⟩:=q
  exact⟨k,B,a,gF h C,G⟩
 case makeFunc f a b=>
  cases f<;>simp only[bG]at q ⊢ <;>try (cases q;done)
  simp only[bIL]at q ⊢
  obtain⟨x,B,y,C,G⟩:=q
  exact⟨x,aCY h.left B,y,aCY h.right C,G⟩
 case makeSlice t l c=>
  simp only[bG,bIL]at q ⊢
  obtain⟨e,B,q⟩:=q
  refine⟨e,B, ?_⟩
  split at q
  ·next hc=>
   rw[if_pos hc]
   simp only[bIL]at q ⊢
   obtain⟨z,B,x,C,n,G,y,W,m,q5,q6⟩:=q
   exact⟨z,B,x,gF h.left C,n,G,y,gF h.right W,m,q5,q6⟩
  ·cases q
 case slice t x lo hi mx=>
  simp only[bG,bIL,bIM]at q ⊢
  obtain⟨a,B,w,C,G⟩:=q
  exact⟨a,gF h.left B,w,aX3 h.right C,G⟩
 case fieldAddr st x f=>
  simp only[bG,bIL]at q ⊢
  obtain⟨a,B,C⟩:=q
  exact⟨a,gF h B,C⟩
 case field t x f=>
  simp only[bG,bIL]at q ⊢
  obtain⟨a,B,C⟩:=q
  exact⟨a,gF h B,C⟩
 case indexAddr t x ix=>
  simp only[bG,bIL]at q ⊢
  obtain⟨a,B,j,C,G⟩:=q
  exact⟨a,gF h.left B,j,gF h.right C,G⟩
 case index t x ix=>
  simp only[bG,bIL]at q ⊢
  obtain⟨a,B,j,C,G⟩:=q
  exact⟨a,gF h.left B,j,gF h.right C,G⟩
 case extract x i=>
  simp only[bG,bIL]at q ⊢
  obtain⟨a,B,C⟩:=q
  exact⟨a,gF h B,C⟩
 case call c=>
  obtain⟨callee,args,F⟩:=c
  cases callee with
  |invoke _ _=>simp only[bG]at q;cases q
  |builtin b=>
   simp only[bG,bIL]at q ⊢
   obtain⟨l,B,C⟩:=q
   exact⟨l,aCY h B,C⟩
  |value g=>
   simp only[bG,bIL]at q ⊢
   obtain⟨a,B,l,C,G⟩:=q
   exact⟨a,gF h.left B,l,aCY h.right C,G⟩
end
def mN:Op->Option Nat
 | .load _ _=>some 1
 | .store _ _ _=>some 3
 | .call ⟨.value _,_,_⟩=>some 2
 | .call ⟨.builtin .append,_,_⟩=>some 3
 | .call ⟨.builtin .copy,_,_⟩=>some 3
 |op=>if lK op&&(eT op).isSome then some 0 else if lK op then some 4 else none
def uF(f:Nat->Bool):List Bool->List Nat->Bool
 |u::us,k::ks=>(!u||f k)&&uF f us ks
 |_,_=>true
def vW(l m:List Nat):Bool:=l.all fun t=> !m.elem t
def ldk(D:List Nat):Op->Nat
 | .load _ (.tmp a)=>if D.elem a then 1 else 10+a
 |_=>1
def rY(D:List Nat)(Y:List (Nat×Nat)):List (bQg×gM)->List Nat->Bool->List Nat->Bool
 | [],_,_,_=>true
 | q::l,ks,tn,nw=>match mN q.1.op with
  |none=>false
  | some k=>vW (aCg q.1.op) q.2.del&&(match k with
   |0=>rY D Y l (0::ks) tn (if aAu q.1.op|| !vW (aCg q.1.op) nw then q.1.dst.toList++nw else nw)
   |1=> !tn&&uF (fun k=>k<3||Nat.ble 10 k) q.2.un ks&&rY D Y l (ldk D q.1.op::ks) tn (if vW (aCg q.1.op) nw then nw else q.1.dst.toList++nw)
   |2=> !tn&& !q.2.tot&&q.2.adr.isEmpty&&rY D Y l (2::ks) tn (q.1.dst.toList++nw)
   |3=>(match q.1.op with
    | .store _ a _=>(if q.2.tot then uF (fun k=>k==0) q.2.un ks else q.2.adr.isEmpty&&(match a with | .tmp u=> !D.elem u&&uF (fun k=>k==0||(Nat.ble 10 k&&Y.elem (k-10,u))) q.2.un ks|_=>false))&&rY D Y l (3::ks) true (q.1.dst.toList++nw)
    |_=> !tn&&q.2.tot&&uF (fun k=>k==0) q.2.un ks&&rY D Y l (3::ks) true (q.1.dst.toList++nw))
   |_=>(if q.2.tot then uF (fun k=>k==0) q.2.un ks else q.2.adr.isEmpty)&&rY D Y l (4::ks) tn (q.1.dst.toList++nw))
def aGD(Y:List (Nat×Nat))(H:List bQg):Bool:=rY (H.filterMap (·.dst)) Y (gL true H) [] false []&&(gL true H).all fun q=>match q.1.guard with |some g=>(match (H[g.1]?).bind (·.dst)with |some d=> !q.2.del.elem d|none=>true)|none=>true
def aL:Option TV->Option TV->Bool
 |some (.po k _),some (.po k' _)=> !(k==k')
 |_,_=>false
def qX(e:bB):List (Nat×Nat)->Bool
 | []=>true
 |q::l=>aL (e q.1) (e q.2)&&qX e l
theorem aPo{e:bB}:∀ {l:List (Nat×Nat)} {q:Nat×Nat},qX e l=true->q∈l->aL (e q.1) (e q.2)=true
 |q'::l,q,h,Q=>by
  simp only[qX,bIN]at h
  cases Q with
  |head=>exact h.1
  |tail _ Q=>exact aPo h.2 Q
def KN(e:bB):Nat->VR->Prop
 |0,x=>x= .q
 |1,x=>x= .q\/∃k,x= .ld k
 |2,x=>x= .q\/∃ad,x= .cl ad
 |k,x=>10<=k->x= .q\/∃av,e (k-10)=some av/\x= .ld av.blk
theorem KN.big{e:bB}{k:Nat}{x:VR}(hk:10<=k)(h:KN e k x):x= .q\/∃av,e (k-10)=some av/\x= .ld av.blk:=by
 match k,hk,h with
 |k+3,hk,h=>exact h hk
theorem KN.q{e:bB}:∀k,KN e k .q
 |0=>rfl
 |1=> .inl rfl
 |2=> .inl rfl
 |_+3=>fun _=> .inl rfl
theorem KN.of_big{e:bB}{k:Nat}{x:VR}(hk:10<=k)(h:x= .q\/∃av,e (k-10)=some av/\x= .ld av.blk):KN e k x:=by
 match k,hk with
 |k+3,hk=>exact fun _=>h
inductive KNL(e:bB):List Nat->List VR->Prop
 |nil:KNL e [] []
 |cons {k:Nat} {x:VR} {ks:List Nat} {xs:List VR} (h:KN e k x) (t:KNL e ks xs):KNL e (k::ks) (x::xs)
theorem aEZ{e:bB}{f:Nat->Bool}{g:VR->Bool}(c':∀k x,f k=true->KN e k x->g x=true):∀(us:List Bool) {ks:List Nat} {xs:List VR},KNL e ks xs->uF f us ks=true->(jI us xs).all g=true
 | [],_,_,_,_=>rfl
 | u::us,ks,xs,h,hu=>by
  cases h with
  |nil=>rfl
  | cons hk E=>
   simp only[uF,bIN,bKk,bJi]at hu
   have ih:=aEZ c' us E hu.2
   cases u with
   |false=>exact ih
   |true=>
    simp only[jI,if_true,bJN,bIN]
    exact⟨c' _ _ (hu.1.resolve_left (by decide)) hk,ih⟩
theorem aID{l d:List Nat}(h:vW l d=true)(r:bB):mT l r (dZ d r):=fun t E v I=>by
 unfold dZ
 have:=bJt.1 h t E
 simp only[bJi]at this
 rw[this];exact I
theorem aD1(l d:List Nat)(r:bB):mT l (dZ d r) r:=fun t _ v I=>by
 unfold dZ at I
 split at I
 ·cases I
 ·exact I
section
variable {P:bQe}{orc:cN}
theorem aMY{o:bQg}{b:VO}{x:VR}{r:bB}{s s':VS}{v:TV}(q:bG P (dD orc) o.op r s=some (v,s')):∃b',sW P orc o b x r s=some (v,s',b')/\(b'=b.note x\/b'=b.made x o.dst)/\(vW (aCg o.op) b.new=true->aAu o.op=false->b'=b.note x):=by
 unfold sW
 split
 ·next p hp=>
  have:=aDp (aD1 _ _ _) hp
  rw[q]at this
  cases this
  cases Q:aAu o.op with
  |true=>exact⟨_,rfl,.inr rfl,fun _ h=>by cases h⟩
  |false=>exact⟨_,rfl,.inl rfl,fun _ _=>rfl⟩
 ·next hp=>
  rw[q]
  refine⟨_,rfl,.inr rfl,fun X _=> ?_⟩
  have:=aDp (aID X r) q
  rw[this]at hp
  cases hp
theorem aPd{l m n:List Nat}(h:vW l n=true)(hs:∀t∈m,t∈n):vW l m=true:=by
 unfold vW at*
 rw[bJt]at*
 intro t E
 have:=h t E
 simp only[bJi]at this ⊢
 cases Q:m.elem t with
 |false=>rfl
 |true=>rw[bJP.2 (hs t (bJP.1 Q))]at this;cases this
theorem aLT{op:Op}{k:Nat}(h:mN op=some k):k=0\/k=1\/k=2\/k=3\/k=4:=by
 unfold mN at h
 split at h
 ·cases h;simp
 ·cases h;simp
 ·cases h;simp
 ·cases h;simp
 ·cases h;simp
 ·split at h
  ·cases h;simp
  ·split at h
   ·cases h;simp
   ·cases h
theorem bH3{op:Op}(h:mN op=some 0):lK op=true/\eT op=some none:=by
 unfold mN at h
 split at h
 ·cases h
 ·cases h
 ·cases h
 ·cases h
 ·cases h
 ·next h1 h2 R h4 h5=>
  split at h
  ·next hc=>
   rw[bIN]at hc
   refine⟨hc.1, ?_⟩
   cases hs:eT op with
   |none=>rw[hs]at hc;cases hc.2
   | some x=>
    cases x with
    |none=>rfl
    |some a=>
     exfalso
     unfold eT at hs
     split at hs<;>first|(cases hs;done)|(exact h1 _ _ rfl)
  ·split at h<;>cases h
theorem bH9{op:Op}(h:mN op=some 1):∃t x,op= .load t x:=by
 unfold mN at h
 split at h
 ·exact⟨_,_,rfl⟩
 ·cases h
 ·cases h
 ·cases h
 ·cases h
 ·split at h
  ·cases h
  ·split at h<;>cases h
theorem bHo{op:Op}(h:mN op=some 2):∃g args F,op= .call ⟨.value g,args,F⟩:=by
 unfold mN at h
 split at h
 ·cases h
 ·cases h
 ·exact⟨_,_,_,rfl⟩
 ·cases h
 ·cases h
 ·split at h
  ·cases h
  ·split at h<;>cases h
theorem aSZ{op:Op}(h:mN op=some 3):(∃t a x,op= .store t a x)\/(∃args F,op= .call ⟨.builtin .append,args,F⟩)\/∃args F,op= .call ⟨.builtin .copy,args,F⟩:=by
 unfold mN at h
 split at h
 ·cases h
 ·exact .inl ⟨_,_,_,rfl⟩
 ·cases h
 ·exact .inr (.inl ⟨_,_,rfl⟩)
 ·exact .inr (.inr ⟨_,_,rfl⟩)
 ·split at h
  ·cases h
  ·split at h<;>cases h
theorem bHB{op:Op}(h:mN op=some 4):lK op=true/\eT op=none/\((∀t a x,op≠ .store t a x)/\∀g args F,op≠ .call ⟨.value g,args,F⟩)/\(∀args F,op≠ .call ⟨.builtin .append,args,F⟩)/\∀args F,op≠ .call ⟨.builtin .copy,args,F⟩:=by
 unfold mN at h
 split at h
 ·cases h
 ·cases h
 ·cases h
 ·cases h
 ·cases h
 ·next h1 h2 R h4 h5=>
  split at h
  ·cases h
  ·next hn=>
   split at h
   ·next hq=>
    refine⟨hq, ?_,⟨fun _ _ _ e=>h2 _ _ _ e,fun _ _ _ e=>R _ _ _ e⟩,fun _ _ e=>h4 _ _ e,fun _ _ e=>h5 _ _ e⟩
    rw[hq,bJI]at hn
    cases hs:eT op with
    |none=>rfl
    |some x=>rw[hs]at hn;exact absurd rfl hn
   ·cases h
theorem aJH{all:Array bQg}{e:bB}{D:List Nat}{Y:List (Nat×Nat)}(hY:qX e Y=true):∀(l:List (bQg×gM)) {ks:List Nat} {tn:Bool} {nw:List Nat} {b:VO} {r:bB} {s:VS} {y:bB×VS},(∀q∈l,∀g,q.1.guard=some g->∀d,(all[g.1]?).bind (·.dst)=some d->d ∉ q.2.del)->(∀q∈l,∀t,q.1.dst=some t->t∈D)->(∀t,t ∉ D->r t=e t)->rY D Y l ks tn nw=true->KNL e ks b.recs->(tn=false->b.clean=true)->(∀t∈b.new,t∈nw)->
  nL P (dD orc) all (l.map (·.1)) r s=some y->mL P orc all e l b r s=some y
 | [],ks,tn,nw,b,r,s,y,_,_,_,_,_,_,_,q=>q
 | p :: l,ks,tn,nw,b,r,s,y,hg,hD,hr,hs,hk,hc,hn,q=>by
  obtain⟨o,p⟩:=p
  simp only[List.map_cons,nL,bIL]at q
  obtain⟨g,B,q⟩:=q
  simp only[mL]
  have qg:yI all (dZ p.del r) o.guard=some g:=by
   cases Z:o.guard with
   |none=>rw[Z]at B;exact B
   | some gg=>
    rw[Z]at B
    simp only[yI,bIL]at B ⊢
    obtain⟨d,h1,yv,h2,R⟩:=B
    refine⟨d,h1,yv, ?_,R⟩
    have:=hg (o,p) (.head _) gg Z d (by obtain⟨x,hx,X⟩:=h1;rw[hx];exact X)
    unfold dZ
    have V:p.del.elem d=false:=by
     cases V:p.del.elem d with
     |false=>rfl
     |true=>exact absurd (bJP.1 V) this
    rw[V];exact h2
  rw[qg]
  simp only[bIS]
  have d':∀q∈l,∀g,q.1.guard=some g->∀d,(all[g.1]?).bind (·.dst)=some d->d ∉ q.2.del:=fun q hq=>hg q (.tail _ hq)
  have e':∀q∈l,∀t,q.1.dst=some t->t∈D:=fun q hq=>hD q (.tail _ hq)
  have f':∀v,∀t,t ∉ D->iJ o.dst v r t=e t:=fun v t E=>by
   cases X:o.dst with
   |none=>exact hr t E
   |some d=>
    have o':t≠d:=fun e=>E (e ▸ hD (o,p) (.head _) d X)
    show(if t=d then some v else r t)=e t
    rw[if_neg o'];exact hr t E
  unfold rY at hs
  cases J:mN o.op with
  |none=>rw[show mN (o,p).1.op=none from J]at hs;simp only at hs;cases hs
  |some k=>
  rw[show mN (o,p).1.op=some k from J]at hs
  simp only[bIN]at hs
  obtain⟨g',hs⟩:=hs
  cases g with
  | false=>
   simp only[bIY,if_false]at q ⊢
   have note:∀ {c:Nat} {tn':Bool} {nw':List Nat},rY D Y l (c::ks) tn' nw'=true->(tn'=false->tn=false)->(∀t∈nw,t∈nw')->mL P orc all e l (b.note .q) (iJ o.dst .u r) s=some y:=fun {c tn' nw'} h1 h2 R=>
    aJH hY l d' e' (f' _) h1 (.cons (KN.q _) hk) (fun h=>hc (h2 h)) (fun t E=>R t (hn t E)) q
   rcases aLT J with rfl|rfl|rfl|rfl|rfl
   ·refine note hs (fun h=>h) ?_
    intro t E
    split
    ·exact bJL _ E
    ·exact E
   ·simp only[bIN]at hs
    refine note hs.2 (fun h=>h) fun t E=> ?_
    split
    ·exact E
    ·exact bJL _ E
   ·simp only[bIN]at hs;exact note hs.2 (fun h=>h) (fun t E=>bJL _ E)
   ·rcases aSZ J with ⟨t,a,x,A⟩|⟨args,F,A⟩|⟨args,F,A⟩
    ·rw[show(o,p).1.op= .store t a x from A]at hs
     simp only[bIN]at hs;exact note hs.2 (fun h=>by cases h) (fun t E=>bJL _ E)
    ·rw[show(o,p).1.op= .call ⟨.builtin .append,args,F⟩from A]at hs
     simp only[bIN]at hs;exact note hs.2 (fun h=>by cases h) (fun t E=>bJL _ E)
    ·rw[show(o,p).1.op= .call ⟨.builtin .copy,args,F⟩from A]at hs
     simp only[bIN]at hs;exact note hs.2 (fun h=>by cases h) (fun t E=>bJL _ E)
   ·simp only[bIN]at hs;exact note hs.2 (fun h=>h) (fun t E=>bJL _ E)
  | true =>
   simp only[if_true,bIL]at q
   simp only[if_true]
   obtain⟨⟨v,s1⟩,C,q⟩:=q
   have q2d:=aDp (aID g' r) C
   have fin:∀ {b':VO} {x:VR} {tn':Bool} {nw':List Nat} {c:Nat},iC P orc e o p b (dZ p.del r) s=some (v,s1,b')->b'.recs=x::b.recs->KN e c x->(tn'=false->b'.clean=true)->(∀t∈b'.new,t∈nw')->rY D Y l (c::ks) tn' nw'=true->
     ((iC P orc e o p b (dZ p.del r) s).bind fun x=>mL P orc all e l x.2.2 (iJ o.dst x.1 r) x.2.1)=some y:=fun {b' x tn' nw' c} h1 h2 R h4 h5 h6=>by
    rw[h1]
    exact aJH hY l d' e' (f' _) h6 (by rw[h2];exact .cons R hk) h4 h5 q
   have tame:uF (fun k=>k<3||Nat.ble 10 k) p.un ks=true->(jI p.un b.recs).all VR.tame=true:=fun h=>aEZ (fun k x hk hx=>by
    by_cases i':10<=k
    ·rcases hx.big i' with rfl|⟨av,_,rfl⟩<;>rfl
    ·match k,hk,hx with
     |0,_,hx=>rw[show x= .q from hx];rfl
     |1,_,hx=>rcases(hx:x= .q\/∃k,x= .ld k)with rfl|⟨k,rfl⟩<;>rfl
     |2,_,hx=>rcases(hx:x= .q\/∃ad,x= .cl ad)with rfl|⟨k,rfl⟩<;>rfl
     |k+3,hk,_=>
      rw[bKk]at hk
      rcases hk with hk|hk
      ·exact absurd (of_decide_eq_true hk) (by omega)
      ·exact absurd (bIU hk) i') _ hk h
   have isq:uF (fun k=>k==0) p.un ks=true->(jI p.un b.recs).all VR.isQ=true:=fun h=>aEZ (fun k x hk hx=>by
    match k,hk,hx with
    |0,_,hx=>rw[show x= .q from hx];rfl
    |_+1,hk,_=>simp at hk) _ hk h
   rcases aLT J with rfl|rfl|rfl|rfl|rfl
   ·obtain⟨h1,h2⟩:=bH3 J
    obtain⟨b',g1,g2,g3⟩:=aMY (b:=b) (x:= .q) q2d
    have I:iC P orc e o p b (dZ p.del r) s=some (v,s1,b'):=by
     unfold iC
     rw[h2]
     simp only[h1,if_true]
     exact g1
    have S:b'.recs= .q::b.recs/\b'.clean=b.clean:=by rcases g2 with rfl|rfl<;>exact⟨rfl,rfl⟩
    refine fin (c:=0) I S.1 rfl (fun h=>by rw[S.2];exact hc h) ?_ hs
    intro t E
    split
    ·rcases g2 with rfl|rfl
     ·exact bJL _ (hn t E)
     ·rcases bJE.1 (show t∈o.dst.toList++b.new from E)with h|h
      ·exact bKE _ h
      ·exact bJL _ (hn t h)
    ·next a'=>
     simp only[bKk,bJi,not_or,Bool.not_eq_true,Bool.not_eq_false]at a'
     have:=g3 (aPd a'.2 hn) a'.1
     rw[this]at E
     exact hn t E
   ·simp only[bIN,bJi]at hs
    obtain⟨⟨k1,K⟩,T⟩:=hs
    obtain⟨t,x,A⟩:=bH9 J
    have qx:∀ {r':bB} {y:TV×VS},bG P (dD orc) o.op r' s=some y->∃av,dV r' x=some av:=fun {r' y} L=>by
     rw[A]at L
     simp only[bG]at L
     split at L
     ·simp only[bIL]at L
      obtain⟨a,h,_⟩:=L
      exact⟨a,h⟩
     ·cases L
    obtain⟨av,qa⟩:=qx q2d
    have I:∃b',iC P orc e o p b (dZ p.del r) s=some (v,s1,b')/\(b'=b.note (.ld av.blk)\/b'=b.made (.ld av.blk) o.dst)/\(vW (aCg o.op) nw=true->b'=b.note (.ld av.blk)):=by
     unfold iC
     rw[show eT o.op=some (some x) by rw[A];rfl]
     simp only[hc k1,tame K,bJv,if_true]
     split
     ·next y hy=>
      simp only[bIL,bIM]at hy
      obtain⟨av',qa',⟨w,s2⟩,qo,rfl⟩:=hy
      have:=aDp (aD1 _ _ _) qo
      rw[q2d]at this
      cases this
      have:=gF (aD1 _ _ _) qa'
      rw[qa]at this
      cases this
      exact⟨_,rfl,.inl rfl,fun _=>rfl⟩
     ·next j'=>
      refine⟨_,by simp only[qa,bIS,q2d,bJk],.inr rfl,fun k2=> ?_⟩
      have G:=aDp (aID (aPd k2 hn) _) q2d
      obtain⟨av',qa'⟩:=qx G
      rw[qa',bIS,G]at j'
      cases j'
    obtain⟨b',I,l',p'⟩:=I
    have m':b'.recs= .ld av.blk::b.recs/\b'.clean=b.clean:=by rcases l' with rfl|rfl<;>exact⟨rfl,rfl⟩
    refine fin (c:=ldk D o.op) I m'.1 ?_ (fun h=>by rw[m'.2];exact hc h) (fun t E=> ?_) T
    rotate_left
    ·split
     ·next k2=>rw[p' k2]at E;exact hn t E
     ·rcases l' with rfl|rfl
      ·exact bJL _ (hn t E)
      ·rcases bJE.1 (show t∈o.dst.toList++b.new from E)with h|h
       ·exact bKE _ h
       ·exact bJL _ (hn t h)
    rw[A]
    unfold ldk
    split
    ·next a V=>
     split
     ·exact(Or.inr ⟨_,rfl⟩:KN e 1 _)
     ·next n'=>
      have t':a ∉ D:=fun Q=>by rw[bJP.2 Q]at n';exact n' rfl
      refine KN.of_big (by omega) (.inr ⟨av, ?_,rfl⟩)
      cases V
      rw[Nat.add_sub_cancel_left,←hr a t']
      exact aD1 [a] _ r a (.head _) av qa
    ·exact(Or.inr ⟨_,rfl⟩:KN e 1 _)
   ·simp only[bIN,bJi]at hs
    obtain⟨⟨⟨k1,k2⟩,K⟩,T⟩:=hs
    obtain⟨g,args,F,A⟩:=bHo J
    have U:p.adr=[]:=by simpa using K
    have I:iC P orc e o p b (dZ p.del r) s=some (v,s1,b.made (.cl []) o.dst):=by
     unfold iC
     have q2g:=bI0 q2d
     rw[show eT o.op=none by rw[A];rfl]
     rw[A]at q2g ⊢
     simp only[hc k1,k2,bLd,bJv,if_true,U,uB,bIS,q2g,bKr]
    refine fin (c:=2) I rfl (Or.inr ⟨_,rfl⟩) (fun h=>hc h) ?_ T
    intro t E
    rcases bJE.1 (show t∈o.dst.toList++b.new from E)with h|h
    ·exact bKE _ h
    ·exact bJL _ (hn t h)
   ·have mem:∀ {b':VO},b'.new=o.dst.toList++b.new->∀t∈b'.new,t∈o.dst.toList++nw:=fun {b'} h t E=>by
     rw[h]at E
     rcases bJE.1 E with h|h
     ·exact bKE _ h
     ·exact bJL _ (hn t h)
    rcases aSZ J with ⟨t,a,x,A⟩|⟨args,F,A⟩|⟨args,F,A⟩
    ·rw [show(o,p).1.op= .store t a x from A]at hs
     simp only[bIN]at hs
     obtain⟨K,T⟩:=hs
     cases E:p.tot with
     | true=>
      rw[E]at K
      simp only[if_true]at K
      have I:iC P orc e o p b (dZ p.del r) s=some (v,s1,b.turned .tt o.dst):=by
       unfold iC
       rw[show eT o.op=none by rw[A];rfl]
       rw[A]at q2d ⊢
       simp only[E,isq K,if_true,q2d,bJk]
      exact fin (c:=3) I rfl (fun h=>absurd h (by decide)) (fun h=>by cases h) (mem rfl) T
     | false=>
      rw[E]at K
      simp only[bIY,if_false,bIN]at K
      obtain⟨ka,K⟩:=K
      have U:p.adr=[]:=by simpa using ka
      split at K
      case h_2=>cases K
      case h_1 u=>
      simp only[bIN,bJi]at K
      have u':u ∉ D:=fun Q=>by have:=K.1;rw[bJP.2 Q]at this;cases this
      have O:=q2d
      rw[A]at O
      simp only[bG]at O
      split at O
      case isFalse=>cases O
      simp only[bIL]at O
      obtain⟨av,qa,xv,_,O⟩:=O
      have v':∃kk off,av= .po kk off:=by
       cases av<;>first|exact⟨_,_,rfl⟩|(simp [aAv]at O;done)
      obtain⟨kk,off,rfl⟩:=v'
      have hu:e u=some (.po kk off):=by
       rw[←hr u u']
       exact aD1 [u] _ _ u (.head _) _ qa
      have w':(jI p.un b.recs).all (VR.okSt kk)=true:=aEZ (fun k x hk hx=>by
       rw[bKk]at hk
       rcases hk with hk|hk
       ·obtain rfl:k=0:=by simpa using hk
        rw[show x= .q from hx];rfl
       ·rw[bIN]at hk
        rcases hx.big (bIU hk.1)with rfl|⟨aw,h1,rfl⟩
        ·rfl
        ·have h2:=aPo hY (bJP.1 hk.2)
         simp only[h1,hu]at h2
         cases aw<;>first|(simp [aL]at h2;done)|skip
         simp only[aL,bJi,beq_eq_false_iff_ne]at h2
         show(_ != kk)=true
         simpa using h2) _ hk K.2
      have I:iC P orc e o p b (dZ p.del r) s=some (v,s1,b.turned (.st kk []) o.dst):=by
       unfold iC
       rw[show eT o.op=none by rw[A];rfl]
       rw[A]at q2d ⊢
       simp only[E,bIY,if_false,qa,bIS,U,uB,List.elem_nil,bLd,w',bJv,if_true,q2d,bJk]
      exact fin (c:=3) I rfl (fun h=>absurd h (by decide)) (fun h=>by cases h) (mem rfl) T
    ·rw[show(o,p).1.op= .call ⟨.builtin .append,args,F⟩from A]at hs
     simp only[bIN,bJi]at hs
     obtain⟨⟨⟨k1,k2⟩,K⟩,T⟩:=hs
     have hl:∃l,lN (dZ p.del r) args.toList=some l:=by
      have L:=q2d
      rw[A]at L
      simp only[bG,bIL]at L
      obtain⟨l,h,_⟩:=L
      exact⟨l,h⟩
     obtain⟨ll,hl⟩:=hl
     by_cases how:∃k off len sz m,ll= .ow k off len sz::m
     ·obtain⟨k,off,len,sz,m,rfl⟩:=how
      have I:iC P orc e o p b (dZ p.del r) s=some (v,s1,b.turned .tt o.dst):=by
       unfold iC
       rw[show eT o.op=none by rw[A];rfl]
       rw[A]at q2d ⊢
       simp only[hl,bIS,k2,isq K,bJv,if_true,q2d,bJk]
      exact fin (c:=3) I rfl (fun h=>absurd h (by decide)) (fun h=>by cases h) (mem rfl) T
     ·have I:iC P orc e o p b (dZ p.del r) s=some (v,s1,b.made .tt o.dst):=by
       unfold iC
       rw[show eT o.op=none by rw[A];rfl]
       rw[A]at q2d ⊢
       simp only[hl,bIS]
       split
       ·exact absurd ⟨_,_,_,_,_,rfl⟩ how
       ·simp only[hc k1,if_true,vY,k2,isq K,bIS,aGh,q2d,bJk]
      exact fin (c:=3) I rfl (fun h=>absurd h (by decide)) (fun h=>by cases h) (mem rfl) T
    ·rw[show(o,p).1.op= .call ⟨.builtin .copy,args,F⟩from A]at hs
     simp only[bIN,bJi]at hs
     obtain⟨⟨⟨k1,k2⟩,K⟩,T⟩:=hs
     have I:iC P orc e o p b (dZ p.del r) s=some (v,s1,b.turned .tt o.dst):=by
      unfold iC
      rw[show eT o.op=none by rw[A];rfl]
      rw[A]at q2d ⊢
      simp only[k2,isq K,bJv,if_true,q2d,bJk]
     exact fin (c:=3) I rfl (fun h=>absurd h (by decide)) (fun h=>by cases h) (mem rfl) T
   ·simp only[bIN]at hs
    obtain⟨h1,h2,R,h4,h5⟩:=bHB J
    have hw:∃x,vY e s p b=some x:=by
     unfold vY
     cases E:p.tot with
     |true=>
      have:=hs.1
      rw[E]at this
      simp only[if_true]at this ⊢
      rw[isq this]
      exact⟨_,rfl⟩
     |false=>
      have:=hs.1
      rw[E]at this
      simp only[bIY,if_false]at this ⊢
      rw[show p.adr=[] by simpa using this]
      exact⟨_,rfl⟩
    obtain⟨x,hw⟩:=hw
    obtain⟨b',g1,g2,g3⟩:=aMY (b:=b) (x:=x) q2d
    have I:iC P orc e o p b (dZ p.del r) s=some (v,s1,b'):=by
     unfold iC
     rw[h2]
     simp only
     split
     ·next A=>exact absurd A (R.1 _ _ _)
     ·next A=>exact absurd A (R.2 _ _ _)
     ·next A=>exact absurd A (h4 _ _)
     ·next A=>exact absurd A (h5 _ _)
     ·simp only[h1,if_true,hw,bIS]
      exact g1
    have S:b'.recs=x::b.recs/\b'.clean=b.clean:=by rcases g2 with rfl|rfl<;>exact⟨rfl,rfl⟩
    refine fin (c:=4) I S.1 (fun h=>absurd h (by decide)) (fun h=>by rw[S.2];exact hc h) ?_ hs.2
    intro t E
    rcases g2 with rfl|rfl
    ·exact bJL _ (hn t E)
    ·rcases bJE.1 (show t∈o.dst.toList++b.new from E)with h|h
     ·exact bKE _ h
     ·exact bJL _ (hn t h)
end
theorem aXY{P:bQe}{orc:cN}{H:Array bQg}{Y:List (Nat×Nat)}(h:aGD Y H.toList=true){e:bB}(hY:qX e Y=true){s:VS}{y:bB×VS}(q:nL P (dD orc) H H.toList e s=some y):mL P orc H e (gL true H.toList) ⟨[],true,[]⟩ e s=some y:=by
 unfold aGD at h
 rw[bIN]at h
 refine aJH hY (gL true H.toList) (fun p hp g hg d X=> ?_) (fun q hq t E=> ?_) (fun _ _=>rfl) h.1 .nil (fun _=>rfl) (fun t E=>by cases E) ?_
 ·have:=bJt.1 h.2 p hp
  rw[hg]at this
  simp only at this
  rw[show(H.toList[g.1]?).bind (·.dst)=some d by rw[bKD];exact X]at this
  simp only[bJi]at this
  intro Q
  rw[bJP.2 Q]at this
  cases this
 ·have Q:q.1∈H.toList:=(List.of_mem_zip (show(q.1,q.2)∈H.toList.zip _ from hq)).1
  exact List.mem_filterMap.2 ⟨q.1,Q,E⟩
 ·have:(gL true H.toList).map (·.1)=H.toList:=by
   unfold gL
   rw[List.map_fst_zip]
   simp
  rw[this];exact q
end
section
structure LO where
 dst:Option Nat
 op:Op
 grd:Option (Nat×Bool)
inductive LC where
 |skip
 |bad
 |ret
 |exit (id:Nat)
 |reg (o:Bool) (keep:List Nat) (u:List LO)
 |chk (l:List (Nat×Nat))
 |seq (a b:LC)
 |cond (x:bQd) (a b:LC)
 |block (id:Nat) (c:LC)
 |loop (c:LC)
def yK(all:Array bQg):List bQg->Option (List LO)
 | []=>some []
 |o::l=>match o.guard with
  |none=>(yK all l).map (⟨o.dst,o.op,none⟩:: ·)
  |some (g,w)=>((all[g]?).bind (·.dst)).bind fun d=>(yK all l).map (⟨o.dst,o.op,some (d,w)⟩:: ·)
abbrev YY:=List (Nat×List (Nat×Nat))
def bJ:YY->Nat->List (Nat×Nat)
 | [],_=>[]
 |q::Y,i=>if q.1=i then q.2 else bJ Y i
def bM:List (Nat×Nat)->LC->LC
 | [],c=>c
 |q::l,c=> .seq (.chk (q::l)) c
def aKq(U:FI)(Y:YY)(id:Nat)(u:Array bQg)(d:Bool):LC:=
 if lJ U.2 u.toList&&(!d||(eS u.toList&&aGD (bJ Y id) u.toList))then(match yK u u.toList with |some l=>bM (bJ Y id) (.reg d (iH U.1 u.toList) l)|none=> .bad)else .bad
def jR(U:FI)(Y:YY):Code->LC
 | .skip=> .skip
 | .region id u d=>aKq U Y id u d
 | .seq a b=> .seq (jR U Y a) (jR U Y b)
 | .cond x a b=> .cond x (jR U Y a) (jR U Y b)
 | .block id c=> .block id (jR U Y c)
 | .loop c=> .loop (jR U Y c)
 | .exit id=> .exit id
 | .ret=> .ret
 |_=> .bad
section
variable (P:bQe)(orc:cN)(cal:jM)
def vlg(r:bB):Option (Nat×Bool)->Option Bool
 |none=>some true
 |some (d,want)=>(r d).bind fun y=>match y with | .b x=>some (x==want)| .u=>some false|_=>none
def zK:List LO->bB->VS->Option (bB×VS)
 | [],r,s=>some (r,s)
 |o::l,r,s=>(vlg r o.grd).bind fun g=>if g then(bG P cal o.op r s).bind fun p=>zK l (iJ o.dst p.1 r) p.2 else zK l (iJ o.dst .u r) s
def vl:LC->bB->VS->Option (eE×bB×VS)
 | .skip,e,s=>some (.normal,e,s)
 | .reg o keep u,e,s=>(zK P (if o then dD orc else cal) u e s).map fun p=>(.normal,pH keep e p.1,p.2)
 | .chk l,e,s=>if qX e l then some (.normal,e,s)else none
 | .seq a b,e,s=>(vl a e s).bind fun p=>match p with
  | (.normal,e,s)=>vl b e s
  | (o,e,s)=>some (o,e,s)
 | .cond x a b,e,s=>(dV e x).bind fun y=>y.bool.bind fun t=>if t then vl a e s else vl b e s
 | .block id c,e,s=>(vl c e s).map fun p=>match p with
  | (.exit i,e,s)=>(if i=id then .normal else .exit i,e,s)
  | (o,e,s)=>(o,e,s)
 | .loop c,e,s=>mM (vl c) rN e s
 | .exit id,e,s=>some (.exit id,e,s)
 | .ret,e,s=>some (.ret,e,s)
 | .bad,_,_=>none
end
section
variable {P:bQe}{orc:cN}{cal:jM}
theorem aK2{cal:jM}{all:Array bQg}:∀ {l:List bQg} {m:List LO} {r:bB} {s:VS},yK all l=some m->zK P cal m r s=nL P cal all l r s
 | [],m,r,s,h=>by cases h;rfl
 | o::l,m,r,s,h=>by
  have fin:∀ {O:List LO} {g:Option (Nat×Bool)},yK all l=some O->vlg r g=yI all r o.guard->zK P cal (⟨o.dst,o.op,g⟩::O) r s=nL P cal all (o::l) r s:=fun {O g} h1 h2=>by
   simp only[zK,nL,h2]
   congr 1
   funext gb
   cases gb with
   |true=>
    simp only[if_true]
    congr 1
    funext p
    exact aK2 h1
   |false=>
    simp only[bIY,if_false]
    exact aK2 h1
  unfold yK at h
  cases M:o.guard with
  |none=>
   rw[M]at h
   simp only[bIM]at h
   obtain⟨O,h1,rfl⟩:=h
   exact fin h1 (by rw[M];rfl)
  |some g=>
   obtain⟨g,w⟩:=g
   rw[M]at h
   simp only[bIL,bIM]at h
   obtain⟨d,h1,O,h2,rfl⟩:=h
   refine fin h2 ?_
   rw[M]
   show(r d).bind _=((all[g]?).bind (·.dst)).bind _
   rw[show(all[g]?).bind (·.dst)=some d by obtain⟨x,hx,S⟩:=h1;rw[hx];exact S]
   rfl
theorem bFY{l:List (Nat×Nat)}{c:LC}{e:bB}{s:VS}{x:eE×bB×VS}(h:vl P orc cal (bM l c) e s=some x):qX e l=true/\vl P orc cal c e s=some x:=by
 cases l with
 |nil=>exact⟨rfl,h⟩
 |cons q l=>
  simp only[bM,vl,bIL]at h
  obtain⟨p,h1,h2⟩:=h
  split at h1
  ·next hc=>cases h1;exact⟨hc,h2⟩
  ·cases h1
theorem aTh(U:FI)(Y:YY):∀(c:Code) {e:bB} {s:VS} {x:eE×bB×VS},vl P orc cal (jR U Y c) e s=some x->gN P orc cal U c e s=some x:=by
 intro c
 induction c with
 |skip=>intro e s x h;exact h
 |exit i=>intro e s x h;exact h
 |ret=>intro e s x h;exact h
 | region id u d=>
  intro e s x h
  simp only[jR,aKq]at h
  split at h
  ·next hc=>
   simp only[bIN,bKk,bJi]at hc
   split at h
   ·next l hl=>
    obtain⟨hY,h⟩:=bFY h
    simp only[vl,bIM]at h
    obtain⟨p,h1,rfl⟩:=h
    simp only[gN,aBL,bIM]
    refine⟨(pH (iH U.1 u.toList) e p.1,p.2), ?_,rfl⟩
    rw[if_pos hc.1]
    rw[aK2 hl]at h1
    cases d with
    |false=>
     simp only[bIY,if_false]at h1 ⊢
     rw[h1];rfl
    |true=>
     obtain⟨g1,g2⟩:=hc.2.resolve_left (by simp)
     simp only[if_true]at h1 ⊢
     rw[if_pos g1,aXY g2 hY h1];rfl
   ·simp only[vl]at h;cases h
  ·simp only[vl]at h;cases h
 |seq a b A C=>
  intro e s x h
  simp only[jR,vl,bIL]at h
  obtain⟨⟨o,G,s1⟩,h1,h2⟩:=h
  simp only[gN,bIL]
  refine⟨_,A h1, ?_⟩
  cases o with
  |normal=>exact C h2
  |exit i=>exact h2
  |ret=>exact h2
 |cond y a b A C=>
  intro e s x h
  simp only[jR,vl,bIL]at h
  obtain⟨v,h1,t,h2,H⟩:=h
  simp only[gN,bIL]
  refine⟨v,h1,t,h2, ?_⟩
  cases t with
  |true=>exact A H
  |false=>exact C H
 |block id c ih=>
  intro e s x h
  simp only[jR,vl,bIM]at h
  obtain⟨p,h1,h2⟩:=h
  simp only[gN,bIM]
  exact⟨p,ih h1,h2⟩
 | loop c ih=>
  intro e s x h
  simp only[jR,vl]at h
  simp only[gN]
  have:∀(m:Nat) {e:bB} {s:VS} {x:eE×bB×VS},mM (vl P orc cal (jR U Y c)) m e s=some x->mM (gN P orc cal U c) m e s=some x:=by
   intro m
   induction m with
   |zero=>intro e s x h;exact h
   |succ m T=>
    intro e s x h
    simp only[mM,bIL]at h ⊢
    obtain⟨⟨o,G,s1⟩,h1,h2⟩:=h
    refine⟨_,ih h1, ?_⟩
    cases o with
    |normal=>exact T h2
    |exit i=>exact h2
    |ret=>exact h2
  exact this _ h
 |_=>intro e s x h;simp only[jR,vl]at h;cases h
end
section
variable (P:bQe)(orc:cN)(cal:jM)
def WC(c:LC)(e:bB)(s:VS)(Q:eE->bB->VS->Prop):Prop:=∃x,vl P orc cal c e s=some x/\Q x.1 x.2.1 x.2.2
def WR(cal:jM)(l:List LO)(r:bB)(s:VS)(K:bB->VS->Prop):Prop:=∃x,zK P cal l r s=some x/\K x.1 x.2
def kO(cal:jM)(l:List LO)(d:Option Nat)(r:bB)(K:bB->VS->Prop):Option (TV×VS)->Prop
 |some p=>WR P cal l (iJ d p.1 r) p.2 K
 |none=>False
def kG(cal:jM)(l:List LO)(d:Option Nat)(op:Op)(r:bB)(s:VS)(K:bB->VS->Prop):Option Bool->Prop
 |some true=>kO P cal l d r K (bG P cal op r s)
 |some false=>WR P cal l (iJ d .u r) s K
 |none=>False
def kS(b:LC)(Q:eE->bB->VS->Prop):eE->bB->VS->Prop
 | .normal,e,s=>WC P orc cal b e s Q
 |o,e,s=>Q o e s
def kB(id:Nat)(Q:eE->bB->VS->Prop):eE->bB->VS->Prop
 | .exit i,e,s=>if i=id then Q .normal e s else Q (.exit i) e s
 |o,e,s=>Q o e s
def kK(keep:List Nat)(e:bB)(Q:eE->bB->VS->Prop):bB->VS->Prop:=fun r s=>Q .normal (pH keep e r) s
end
section
variable {P:bQe}{orc:cN}{cal:jM}{e:bB}{s:VS}{Q:eE->bB->VS->Prop}
theorem WC.mono{c:LC}{Q':eE->bB->VS->Prop}(h:WC P orc cal c e s Q)(hq:∀o e s,Q o e s->Q' o e s):WC P orc cal c e s Q':=let ⟨x,h1,h2⟩:=h;⟨x,h1,hq _ _ _ h2⟩
theorem WC.skip(h:Q .normal e s):WC P orc cal .skip e s Q:=⟨_,rfl,h⟩
theorem WC.ret(h:Q .ret e s):WC P orc cal .ret e s Q:=⟨_,rfl,h⟩
theorem WC.exit{i:Nat}(h:Q (.exit i) e s):WC P orc cal (.exit i) e s Q:=⟨_,rfl,h⟩
theorem WC.seq{a b:LC}(h:WC P orc cal a e s (kS P orc cal b Q)):WC P orc cal (.seq a b) e s Q:=by
 obtain⟨⟨o,G,s1⟩,h1,h2⟩:=h
 cases o with
 |normal=>
  obtain⟨x,g1,g2⟩:=h2
  exact⟨x,by simp only[vl,h1,bIS];exact g1,g2⟩
 |exit i=>exact⟨_,by simp only[vl,h1,bIS],h2⟩
 |ret=>exact⟨_,by simp only[vl,h1,bIS],h2⟩
theorem WC.block{id:Nat}{c:LC}(h:WC P orc cal c e s (kB id Q)):WC P orc cal (.block id c) e s Q:=by
 obtain⟨⟨o,G,s1⟩,h1,h2⟩:=h
 refine⟨_,by simp only[vl,h1,bJk];rfl, ?_⟩
 cases o with
 |normal=>exact h2
 |ret=>exact h2
 |exit i=>
  simp only[kB]at h2
  by_cases F:i=id
  ·rw[if_pos F]at h2;simp only[if_pos F];exact h2
  ·rw[if_neg F]at h2;simp only[if_neg F];exact h2
theorem WC.reg{o:Bool}{keep:List Nat}{u:List LO}(h:WR P (if o then dD orc else cal) u e s (kK keep e Q)):WC P orc cal (.reg o keep u) e s Q:=by
 obtain⟨p,h1,h2⟩:=h
 exact⟨(.normal,pH keep e p.1,p.2),by simp only[vl,h1,bJk],h2⟩
theorem WC.loop{c:LC}(I:Nat->bB->VS->Prop)(n:Nat)(h0:I n e s)(hn:n<rN)(step:∀n e s,I n e s->WC P orc cal c e s (fun o e s=>match o with | .normal=>∃n',n'<n/\I n' e s|o=>Q o e s)):WC P orc cal (.loop c) e s Q:=by
 have:∀(m n:Nat),n<m->∀e s,I n e s->∃x,mM (vl P orc cal c) m e s=some x/\Q x.1 x.2.1 x.2.2:=by
  intro m
  induction m with
  |zero=>intro n h;omega
  | succ m ih=>
   intro n a' e s hI
   obtain⟨⟨o,G,s1⟩,h1,h2⟩:=step n e s hI
   cases o with
   |normal=>
    obtain⟨n',H,V⟩:=h2
    obtain⟨x,g1,g2⟩:=ih n' (by omega) G s1 V
    exact⟨x,by simp only[mM,h1,bIS];exact g1,g2⟩
   |exit i=>exact⟨_,by simp only[mM,h1,bIS],h2⟩
   |ret=>exact⟨_,by simp only[mM,h1,bIS],h2⟩
 exact this rN n hn e s h0
theorem WC.up{c:LC}(I:Nat->bB->VS->Prop)(B:Nat)(h0:I 0 e s)(hB:B<rN)(step:∀k e s,k<=B->I k e s->WC P orc cal c e s (fun o e s=>match o with | .normal=>k<B/\I (k+1) e s|o=>Q o e s)):WC P orc cal (.loop c) e s Q:=by
 refine .loop (fun n e s=>n<=B/\I (B-n) e s) B ⟨bIK _,by rw[Nat.sub_self];exact h0⟩ hB fun n e s h=> ?_
 refine(step (B-n) e s (by omega) h.2).mono fun o e s q=> ?_
 cases o with
 |normal=>exact⟨n-1,by have:=q.1;omega,by have:=q.1;have:=h.1;omega,by rw[show B-(n-1)=B-n+1 by have:=q.1;have:=h.1;omega];exact q.2⟩
 |exit i=>exact q
 |ret=>exact q
theorem aS4{r:bB}{K:bB->VS->Prop}:WR P cal [] r s K=K r s:=propext ⟨fun⟨x,h1,h2⟩=>by cases h1;exact h2,fun h=>⟨_,rfl,h⟩⟩
theorem aQf{l:List LO}{d:Option Nat}{r:bB}{K:bB->VS->Prop}{v:TV}{s1:VS}:kO P cal l d r K (some (v,s1))=WR P cal l (iJ d v r) s1 K:=rfl
theorem aRc{l:List LO}{d:Option Nat}{op:Op}{r:bB}{K:bB->VS->Prop}:kG P cal l d op r s K (some true)=kO P cal l d r K (bG P cal op r s):=rfl
theorem aOg{l:List LO}{d:Option Nat}{op:Op}{r:bB}{K:bB->VS->Prop}:kG P cal l d op r s K (some false)=WR P cal l (iJ d .u r) s K:=rfl
theorem aJd{l:List LO}{d:Option Nat}{op:Op}{g:Option (Nat×Bool)}{r:bB}{K:bB->VS->Prop}:WR P cal (⟨d,op,g⟩::l) r s K=kG P cal l d op r s K (vlg r g):=by
 apply propext
 unfold WR
 simp only[zK]
 cases M:vlg r g with
 |none=>simp [kG]
 | some b=>
  cases b with
  |true=>
   simp only[bIS,if_true,kG]
   cases ho:bG P cal op r s with
   |none=>simp [kO]
   |some p=>simp only[bIS,kO];rfl
  |false=>simp only[bIS,bIY,if_false,kG];rfl
theorem aTw{l:List LO}{d:Option Nat}{op:Op}{r:bB}{K:bB->VS->Prop}:WR P cal (⟨d,op,none⟩::l) r s K=kO P cal l d r K (bG P cal op r s):=by rw[aJd];rfl
def pk{α:Type}:Bool->α->α->α
 |true,x,_=>x
 |false,_,y=>y
theorem aTU{α:Type}(x y:α):pk true x y=x:=rfl
theorem aTJ{α:Type}(x y:α):pk false x y=y:=rfl
theorem aPM{d t:Nat}{v:TV}{r:bB}:iJ (some d) v r t=pk (t==d) (some v) (r t):=by
 show(if t=d then some v else r t)=_
 by_cases h:t=d
 ·subst h;simp [pk]
 ·rw[if_neg h,show(t==d)=false by simpa using h];rfl
theorem aMH{v:TV}{r:bB}:iJ none v r=r:=rfl
def aGX(e:bB)(t:Nat)(o:Option TV):bB:=fun j=>if j=t then o else e j
theorem aQF{e:bB}{t j:Nat}{o:Option TV}:aGX e t o j=pk (j==t) o (e j):=by
 show(if j=t then o else e j)=_
 by_cases h:j=t
 ·subst h;simp [pk]
 ·rw[if_neg h,show(j==t)=false by simpa using h];rfl
theorem aME{r:bB}:pH [] e r=e:=by funext j;rfl
theorem aLZ{t:Nat}{l:List Nat}{r:bB}:pH (t::l) e r=aGX (pH l e r) t (r t):=by
 funext j
 unfold pH aGX
 rw[bMb]
 by_cases h:j=t
 ·subst h;simp
 ·have:(j==t)=false:=by simpa using h
  rw[this];simp [h]
theorem aNm{t:Nat}:lM [] t=fun _=>none:=rfl
theorem aLI{a:TV}{l:List TV}{t:Nat}:lM (a::l) t=aGX (lM l (t+1)) t (some a):=rfl
theorem aR5:WC P orc cal .skip e s Q=Q .normal e s:=propext ⟨fun⟨x,h1,h2⟩=>by cases h1;exact h2,.skip⟩
theorem aRA:WC P orc cal .ret e s Q=Q .ret e s:=propext ⟨fun⟨x,h1,h2⟩=>by cases h1;exact h2,.ret⟩
theorem aPv{i:Nat}:WC P orc cal (.exit i) e s Q=Q (.exit i) e s:=propext ⟨fun⟨x,h1,h2⟩=>by cases h1;exact h2,.exit⟩
theorem aSu{l:List (Nat×Nat)}:WC P orc cal (.chk l) e s Q=(qX e l=true/\Q .normal e s):=propext (by
 constructor
 ·rintro⟨x,h1,h2⟩
  simp only[vl]at h1
  split at h1
  ·next hc=>cases h1;exact⟨hc,h2⟩
  ·cases h1
 ·rintro⟨h1,h2⟩
  exact⟨(.normal,e,s),by simp only[vl,h1,if_true],h2⟩)
theorem aRh{a b:LC}:WC P orc cal (.seq a b) e s Q=WC P orc cal a e s (kS P orc cal b Q):=propext ⟨fun⟨x,h1,h2⟩=>by
 simp only[vl,bIL]at h1
 obtain⟨⟨o,G,s1⟩,g1,g2⟩:=h1
 refine⟨_,g1, ?_⟩
 cases o with
 |normal=>exact⟨x,g2,h2⟩
 |exit i=>cases g2;exact h2
 |ret=>cases g2;exact h2,.seq⟩
theorem aOA{id:Nat}{c:LC}:WC P orc cal (.block id c) e s Q=WC P orc cal c e s (kB id Q):=propext ⟨fun⟨x,h1,h2⟩=>by
 simp only[vl,bIM]at h1
 obtain⟨⟨o,G,s1⟩,g1,g2⟩:=h1
 refine⟨_,g1, ?_⟩
 cases o with
 |normal=>cases g2;exact h2
 |ret=>cases g2;exact h2
 |exit i=>
  cases g2
  simp only[kB]
  by_cases F:i=id
  ·rw[if_pos F];simp only[if_pos F]at h2;exact h2
  ·rw[if_neg F];simp only[if_neg F]at h2;exact h2,.block⟩
theorem aSb{o:Bool}{keep:List Nat}{u:List LO}:WC P orc cal (.reg o keep u) e s Q=WR P (if o then dD orc else cal) u e s (kK keep e Q):=propext ⟨fun⟨x,h1,h2⟩=>by
 simp only[vl,bIM]at h1
 obtain⟨p,g1,rfl⟩:=h1
 exact⟨p,g1,h2⟩,.reg⟩
def kC(P:bQe)(orc:cN)(cal:jM)(a b:LC)(e:bB)(s:VS)(Q:eE->bB->VS->Prop):Option TV->Prop
 |some (.b t)=>if t=true then WC P orc cal a e s Q else WC P orc cal b e s Q
 |_=>False
theorem aPK{x:bQd}{a b:LC}:WC P orc cal (.cond x a b) e s Q=kC P orc cal a b e s Q (dV e x):=by
 apply propext
 unfold WC
 simp only[vl]
 cases h:dV e x with
 |none=>simp [kC]
 |some v=>
  cases v with
  |b t=>cases t<;>simp [kC,TV.bool,WC]
  |_=>simp [kC,TV.bool]
theorem aTN{a b:LC}:kC P orc cal a b e s Q (some (.b true))=WC P orc cal a e s Q:=rfl
theorem aTS{a b:LC}:kC P orc cal a b e s Q (some (.b false))=WC P orc cal b e s Q:=rfl
theorem cJ{a b:LC}{t:Bool}(h1:t=true->WC P orc cal a e s Q)(h2:t=false->WC P orc cal b e s Q):kC P orc cal a b e s Q (some (.b t)):=by cases t;exact h2 rfl;exact h1 rfl
theorem aTX{b:LC}:kS P orc cal b Q .normal e s=WC P orc cal b e s Q:=rfl
theorem aTA{b:LC}{i:Nat}:kS P orc cal b Q (.exit i) e s=Q (.exit i) e s:=rfl
theorem aTP{b:LC}:kS P orc cal b Q .ret e s=Q .ret e s:=rfl
theorem aTZ{i:Nat}:kB i Q .normal e s=Q .normal e s:=rfl
theorem aTW{i:Nat}:kB i Q .ret e s=Q .ret e s:=rfl
theorem aTy{i j:Nat}:kB i Q (.exit j) e s=if j=i then Q .normal e s else Q (.exit j) e s:=rfl
theorem aT4{keep:List Nat}{e r:bB}{s:VS}:kK keep e Q r s=Q .normal (pH keep e r) s:=rfl
theorem rR{l:List LO}{d:Option Nat}{op:Op}{r:bB}{K:bB->VS->Prop}{x:Bool}(h1:x=true->kG P cal l d op r s K (some true))(h2:x=false->kG P cal l d op r s K (some false)):kG P cal l d op r s K (some x):=by cases x;exact h2 rfl;exact h1 rfl
theorem aOw{r:bB}:vlg r none=some true:=rfl
def aE1(w:Bool):Option TV->Option Bool
 |some (.b x)=>some (x==w)
 |some .u=>some false
 |_=>none
theorem aSI{r:bB}{d:Nat}{w:Bool}:vlg r (some (d,w))=aE1 w (r d):=by
 simp only[vlg]
 cases r d with
 |none=>rfl
 |some y=>cases y<;>rfl
theorem aRE{x:Bool}:aE1 true (some (.b x))=some x:=by simp [aE1]
theorem aSs{x:Bool}:aE1 false (some (.b x))=some (!x):=by cases x<;>rfl
theorem aSX{w:Bool}:aE1 w (some .u)=some false:=rfl
theorem bE2{cC:lW}{pv:cN}{m:Nat}{f:bQf}{fn:Func}{L:LC}{args:List TV}{R:TV×Bool}(D:pv f args=none)(hf:P.funcs[f]? =some fn){Y:YY}(z:fn.body.map (fun c=>jR (nE fn c,fn.ntmps) Y c)=some L)(hn:(Nat.ble args.length 16&&Nat.ble args.length fn.ntmps)=true)
  (h:WC P (gG P cC pv m) (fH P cC (gG P cC pv m) lA) L (lM args 0) eA (fun o e s=>(∀i,o≠ .exit i)/\(iO P e s fn.results.toList).bind (fun l=>(dM s l).map (nQ (cC.row f)))=some R)) (E:cC.prim f=false):gG P cC pv (m+1) f args=some R:=by
 rw[bIM]at z
 obtain⟨c,J,z⟩:=z
 rw[bIN]at hn
 have hn:args.length<=16/\args.length<=fn.ntmps:=⟨bIU hn.1,bIU hn.2⟩
 obtain⟨⟨o,e,s⟩,h1,h2,H⟩:=h
 rw[←z]at h1
 have h1:=aTh _ _ _ h1
 simp only[gG,D,E,bIY,if_false,hf,bIS,vfn,J,if_pos hn,h1]
 cases o with
 |exit i=>exact absurd rfl (h2 i)
 |normal=>rw[←H];exact Option.map_bind
 |ret=>rw[←H];exact Option.map_bind
end
end
section
def bL(all:Array bQg):List bQg->List LO
 | []=>[]
 |o::l=>⟨o.dst,o.op,match o.guard with |none=>none|some (g,w)=>some ((((all[g]?).bind (·.dst)).getD 0),w)⟩::bL all l
def aGc(all:Array bQg):List bQg->Bool
 | []=>true
 |o::l=>(match o.guard with |none=>true|some (g,_)=>((all[g]?).bind (·.dst)).isSome)&&aGc all l
def aGk:Bool->Nat->List Nat->List Nat
 |true,d,l=>d::l
 |false,_,l=>l
def bH(X:List Nat):List bQg->List Nat
 | []=>[]
 |o::l=>match o.dst with |some d=>aGk (decide (d<16)||X.elem d) d (bH X l)|none=>bH X l
theorem aR8(d:Nat)(l:List Nat):aGk true d l=d::l:=rfl
theorem aRa(d:Nat)(l:List Nat):aGk false d l=l:=rfl
theorem aIh(X:List Nat):∀l:List bQg,iH (X++bJh 16) l=bH X l
 | []=>rfl
 | o::l=>by
  unfold iH bH
  cases o.dst with
  |none=>exact aIh X l
  | some d=>
   simp only[aIh X l]
   have:(X++bJh 16).elem d=(decide (d<16)||X.elem d):=by
    rw[Bool.eq_iff_iff,bKk,decide_eq_true_eq,bJP,bJP,bJE,List.mem_range]
    exact Or.comm
   rw[this]
   cases (decide (d<16)||X.elem d)<;>simp [aGk]
def bD(X:List Nat)(Y:YY):Code->LC
 | .skip=> .skip
 | .region id u d=>bM (bJ Y id) (.reg d (bH X u.toList) (bL u u.toList))
 | .seq a b=> .seq (bD X Y a) (bD X Y b)
 | .cond x a b=> .cond x (bD X Y a) (bD X Y b)
 | .block id c=> .block id (bD X Y c)
 | .loop c=> .loop (bD X Y c)
 | .exit id=> .exit id
 | .ret=> .ret
 |_=> .bad
def pO(U:FI)(Y:YY):Code->Bool
 | .region id u d=>lJ U.2 u.toList&&(!d||(eS u.toList&&aGD (bJ Y id) u.toList))&&aGc u u.toList
 | .seq a b=>pO U Y a&&pO U Y b
 | .cond _ a b=>pO U Y a&&pO U Y b
 | .block _ c=>pO U Y c
 | .loop c=>pO U Y c
 |_=>true
theorem aRb{all:Array bQg}:∀ {l:List bQg},aGc all l=true->yK all l=some (bL all l)
 | [],_=>rfl
 | o::l,h=>by
  simp only[aGc,bIN]at h
  unfold yK bL
  rw[aRb h.2]
  cases M:o.guard with
  |none=>rfl
  |some g=>
   obtain⟨g,w⟩:=g
   have h1:=h.1
   rw[M]at h1
   obtain⟨d,S⟩:=bLC.1 h1
   simp only[S,bIS,bJk,bKC]
theorem aPc{X:List Nat}{Y:YY}{N:Nat}:∀ {c:Code},pO (X++bJh 16,N) Y c=true->jR (X++bJh 16,N) Y c=bD X Y c:=by
 intro c
 induction c with
 |region id u d=>
  intro h
  simp only[pO,bIN]at h
  simp only[jR,aKq,bD]
  rw[if_pos (by rw[bIN];exact⟨h.1.1,h.1.2⟩),aRb h.2,aIh]
 |seq a b A C=>intro h;simp only[pO,bIN]at h;simp only[jR,bD,A h.1,C h.2]
 |cond x a b A C=>intro h;simp only[pO,bIN]at h;simp only[jR,bD,A h.1,C h.2]
 |block id c ih=>intro h;simp only[pO]at h;simp only[jR,bD,ih h]
 |loop c ih=>intro h;simp only[pO]at h;simp only[jR,bD,ih h]
 |_=>intro h;rfl
def bQ(_P:bQe)(_f:bQf)(fn:Func)(X:List Nat)(Y:YY):Bool:=match fn.body with |some c=>pO (X++bJh 16,fn.ntmps) Y c&&decide (nE fn c=X++bJh 16)|none=>false
theorem aQd{P:bQe}{cC:lW}{pv:cN}{m:Nat}{f:bQf}{fn:Func}{X:List Nat}{Y:YY}{args:List TV}{R:TV×Bool}(D:pv f args=none)(hf:P.funcs[f]? =some fn)(z:bQ P f fn X Y=true)(hn:(Nat.ble args.length 16&&Nat.ble args.length fn.ntmps)=true)
  (h:WC P (gG P cC pv m) (fH P cC (gG P cC pv m) lA) (bD X Y (fn.body.getD .skip)) (lM args 0) eA (fun o e s=>(∀i,o≠ .exit i)/\(iO P e s fn.results.toList).bind (fun l=>(dM s l).map (nQ (cC.row f)))=some R)) (E:cC.prim f=false):gG P cC pv (m+1) f args=some R:=by
 unfold bQ at z
 cases J:fn.body with
 |none=>rw[J]at z;cases z
 |some c=>
  rw[J]at z h
  simp only[bIN,decide_eq_true_eq]at z
  refine bE2 D hf (Y:=Y) (L:=bD X Y c) ?_ hn h E
  rw[J]
  simp only[bJk,z.2]
  rw[aPc z.1]
theorem bY{P:bQe}{cC:lW}{pv:cN}{m:Nat}{f:bQf}{fn:Func}{X:List Nat}{Y:YY}{args:List TV}{R:TV×Bool}(D:pv f args=none)(hf:P.funcs[f]? =some fn)(z:bQ P f fn X Y=true)(hn:(Nat.ble args.length 16&&Nat.ble args.length fn.ntmps)=true)
  (h:WC P (gG P cC pv m) (fH P cC (gG P cC pv m) lA) (bD X Y (fn.body.getD .skip)) (lM args 0) eA (fun o e s=>(∀i,o≠ .exit i)/\(iO P e s fn.results.toList).bind (fun l=>dM s l)=some R)) (W:cC.row f=false:=by rfl) (E:cC.prim f=false:=by rfl):gG P cC pv (m+1) f args=some R:=by
 refine aQd D hf z hn ?_ E
 rw[W]
 have e:∀q:Option (TV×Bool),q.map (nQ false)=q:=fun q=>by cases q<;>rfl
 simp only[e]
 exact h
theorem jP{P:bQe}{cC:lW}{pv:cN}{m:Nat}{f:bQf}{fn:Func}{X:List Nat}{Y:YY}{args:List TV}{R:TV×Bool}(D:pv f args=none)(hf:P.funcs[f]? =some fn)(z:bQ P f fn X Y=true)(hn:(Nat.ble args.length 16&&Nat.ble args.length fn.ntmps)=true)
  (h:WC P (gG P cC pv m) (fH P cC (gG P cC pv m) lA) (bD X Y (fn.body.getD .skip)) (lM args 0) eA (fun o e s=>(∀i,o≠ .exit i)/\(iO P e s fn.results.toList).bind (fun l=>(dM s l).map (nQ true))=some R)) (W:cC.row f=true:=by rfl) (E:cC.prim f=false:=by rfl):gG P cC pv (m+1) f args=some R:=by
 refine aQd D hf z hn ?_ E
 rw[W]
 exact h
theorem aBJ{P:bQe}{cC:lW}{orc:cN}{n:Nat}{f:bQf}{fn:Func}{X:List Nat}{Y:YY}{args:List TV}{s:VS}{Φ:TV->VS->Prop}(F:cC f=true)(hf:P.funcs[f]? =some fn)(z:bQ P f fn X Y=true)(hn:(Nat.ble args.length 16&&Nat.ble args.length fn.ntmps)=true)
  (h:WC P orc (fH P cC orc n) (bD X Y (fn.body.getD .skip)) (lM args 0) s (fun o e s1=>(∀i,o≠ .exit i)/\∃R,(iO P e s1 fn.results.toList).bind (fun l=>some (aH l))=some R/\Φ R s1)):∃R s1,fH P cC orc (n+1) f args s=some (R,s1)/\Φ R s1:=by
 unfold bQ at z
 cases J:fn.body with
 |none=>rw[J]at z;cases z
 | some c=>
  rw[J]at z h
  simp only[bIN,decide_eq_true_eq]at z hn
  have hn:args.length<=16/\args.length<=fn.ntmps:=⟨bIU hn.1,bIU hn.2⟩
  obtain⟨⟨o,e,s1⟩,h1,h2,R,H,V⟩:=h
  simp only[bKC]at h1
  have Z:jR (nE fn c,fn.ntmps) Y c=bD X Y c:=by rw[z.2,aPc z.1]
  rw[←Z]at h1
  have h1:=aTh _ _ _ h1
  refine⟨R,s1, ?_,V⟩
  simp only[fH,F,if_true,hf,bIS,J,if_pos hn,h1]
  cases o with
  |exit i=>exact absurd rfl (h2 i)
  |normal=>
   revert H
   show _->(iO P e s1 fn.results.toList).map _=_
   cases iO P e s1 fn.results.toList with
   |none=>intro h;cases h
   |some l=>intro h;cases h;rfl
  |ret=>
   revert H
   show _->(iO P e s1 fn.results.toList).map _=_
   cases iO P e s1 fn.results.toList with
   |none=>intro h;cases h
   |some l=>intro h;cases h;rfl
theorem aFo{P:bQe}{cC:lW}{orc:cN}{n:Nat}{f:bQf}{fn:Func}{X:List Nat}{Y:YY}{args:List TV}{s:VS}{R:TV×VS}(F:cC f=true)(hf:P.funcs[f]? =some fn)(z:bQ P f fn X Y=true)(hn:(Nat.ble args.length 16&&Nat.ble args.length fn.ntmps)=true)
  (h:WC P orc (fH P cC orc n) (bD X Y (fn.body.getD .skip)) (lM args 0) s (fun o e s1=>(∀i,o≠ .exit i)/\(iO P e s1 fn.results.toList).bind (fun l=>some (aH l,s1))=some R)):fH P cC orc (n+1) f args s=some R:=by
 obtain⟨R1,s1,G,Z⟩:=aBJ (Φ:=fun R1 s1=>(R1,s1)=R) F hf z hn (h.mono fun o e s1 q=>⟨q.1,by
  obtain⟨_,q⟩:=q
  cases hv:iO P e s1 fn.results.toList with
  |none=>rw[hv]at q;cases q
  |some l=>rw[hv]at q;exact⟨_,rfl,Option.some.inj q⟩⟩)
 rw[G,Z]
end
section
theorem aAI{sz:Nat}{cs:List TV}(h:cs≠ []):tL sz cs= .im sz cs:=by cases cs with |nil=>exact absurd rfl h|cons c l=>rfl
theorem bF5{sz:Nat}(_hs:0<sz)(cs:List TV):jN (tL sz cs)=tL sz (cL cs):=by
 cases cs with
 |nil=>rfl
 |cons c l=>
  show(if (c::l).length=0/\0<sz then TV.em else .im sz (cL (c::l)))=_
  rw[if_neg (by simp)];rfl
theorem aXu(sz:Nat)(cs:List TV):cI (tL sz cs)=dR cs:=by cases cs<;>rfl
theorem aHm:∀(a b:List TV),dR (a++b)=(dR a&&dR b)
 | [],b=>by simp [dR]
 |x::a,b=>by simp only[bJG,dR,aHm a b,Bool.and_assoc]
theorem aPn:∀(a b:List TV),cL (a++b)=cL a++cL b
 | [],b=>by simp [cL]
 |x::a,b=>by simp only[bJG,cL,aPn a b]
def Can(l:List TV):Prop:=dR l=true/\cL l=l
def cP(t:TV):Prop:=cI t=true/\jN t=t
theorem Can.nil:Can []:=⟨rfl,rfl⟩
theorem Can.cons{a:TV}{l:List TV}(h:cP a)(k:Can l):Can (a::l):=⟨by simp only[dR,h.1,k.1,bJv],by simp only[cL,h.2,k.2]⟩
theorem Can.app{a b:List TV}(h:Can a)(k:Can b):Can (a++b):=⟨by rw[aHm,h.1,k.1];rfl,by rw[aPn,h.2,k.2]⟩
theorem Can.flat{α:Type}{f:α->List TV}(h:∀a,Can (f a)):∀l:List α,Can (l.flatMap f)
 | []=>Can.nil
 |a::l=>by rw[List.flatMap_cons];exact(h a).app (Can.flat h l)
theorem Can.map{α:Type}{f:α->TV}(h:∀a,cP (f a)):∀l:List α,Can (l.map f)
 | []=>Can.nil
 |a::l=>Can.cons (h a) (Can.map h l)
theorem cP.tL{sz:Nat}(hs:0<sz){cs:List TV}(h:Can cs):cP (tL sz cs):=⟨by rw[aXu];exact h.1,by rw[bF5 hs,h.2]⟩
theorem cP.ag{cs:List TV}(h:Can cs):cP (.ag cs):=⟨h.1,by simp only[jN,h.2]⟩
theorem cP.int(k:bQc)(z:Int):cP (.int k z):=⟨rfl,rfl⟩
theorem cP.b(x:Bool):cP (.b x):=⟨rfl,rfl⟩
theorem cP.em:cP .em:=⟨rfl,rfl⟩
theorem cP.str(x:ByteArray):cP (.str x):=⟨rfl,rfl⟩
theorem aWH{m:Nat}{s:VS}{t:TV}(h:cI t=true)(p:∀l,t≠ .ag l)(C:∀l,t≠ .tp l):fE (m+1) s t=some (t,s):=by
 cases t<;>first|exact absurd rfl (p _)|exact absurd rfl (C _)|(simp [cI]at h;done)|simp only[fE,h,if_true]|rfl
mutual
def dA:TV->Nat
 | .ag l=>bW l+1
 | .tp l=>bW l+1
 |_=>1
def bW:List TV->Nat
 | []=>1
 |a::l=>dA a+bW l+1
end
theorem mY:∀m:Nat,(∀ {s:VS} {t:TV},cI t=true->dA t<=m->fE m s t=some (t,s))/\(∀ {s:VS} {l:List TV},dR l=true->bW l<=m->cX m s l=some (l,s))
 |0=>⟨fun {s t} _ h=>by cases t<;>simp [dA]at h,fun {s l} _ h=>by cases l<;>simp [bW]at h⟩
 | m+1=>by
  obtain⟨r,g⟩:=mY m
  refine⟨fun {s t} hc h=> ?_,fun {s l} hc h=> ?_⟩
  ·cases t with
   |ag l=>simp only[fE];rw[g (by simpa only[cI]using hc) (by simp [dA]at h;omega)];rfl
   |tp l=>simp only[fE];rw[g (by simpa only[cI]using hc) (by simp [dA]at h;omega)];rfl
   |_=>exact aWH hc (fun _ e=>by cases e) (fun _ e=>by cases e)
  ·cases l with
   |nil=>rfl
   |cons a l=>
    simp only[dR,bIN]at hc
    simp only[bW]at h
    simp only[cX]
    rw[r hc.1 (by omega)]
    simp only[bIS]
    rw[g hc.2 (by omega)]
    rfl
theorem sF{s:VS}{l:List TV}(h:dR l=true)(hs:bW l<=cK):cX cK s l=some (l,s):=(mY cK).2 h hs
section
variable {P:bQe}{orc:cN}
theorem aEz{f:bQf}{args:List TV}{s:VS}{R:TV}(h:Can args)(hs:bW args<=cK)(d:orc f args=some (R,false)):dD orc f args s=some (R,s):=by
 unfold dD
 rw[sF h.1 hs]
 simp only[bIS,h.2,d,bIY,if_false]
theorem aWy{f:bQf}{args:List TV}{s:VS}{sz:Nat}{cs:List TV}(h:Can args)(hs:bW args<=cK)(d:orc f args=some (.im sz cs,true))(h0:0<sz)(D:cs.length%sz=0):dD orc f args s=some (.ow s.nxt 0 (cs.length/sz) sz,s.new cs):=by
 unfold dD
 rw[sF h.1 hs]
 simp only[bIS,h.2,d,if_true,nN,if_pos (And.intro h0 D)]
 rfl
theorem aET{f:bQf}{args:List TV}{s:VS}(h:dR args=true)(hs:bW args<=cK):fD orc f args s=dD orc f args s:=by
 unfold fD dD
 rw[sF h hs]
 simp only[bIS]
 cases d:orc f (cL args)with
 |none=>rfl
 | some q=>
  obtain⟨R,own⟩:=q
  simp only[bIS]
  cases own with
  |false=>simp
  |true=>
   simp only[if_true,nN]
   cases oN R<;>rfl
def CC(orc:cN)(f:bQf)(args:List TV)(R:TV):Prop:=∀s,dD orc f args s=some (R,s)/\fD orc f args s=some (R,s)
theorem CC.of{f:bQf}{args:List TV}{R:TV}(h:Can args)(hs:bW args<=cK)(d:orc f args=some (R,false)):CC orc f args R:=fun s=>
 ⟨aEz h hs d,by rw[aET h.1 hs];exact aEz h hs d⟩
theorem CC.fr{f:bQf}{args:List TV}{R:TV}(h:Can args)(hs:bW args<=cK)(d:orc f args=some (.tp [R],true)):CC orc f args R:=fun s=>by
 have e:dD orc f args s=some (R,s):=by
  unfold dD
  rw[sF h.1 hs]
  simp only[bIS,h.2,d,if_true,nN,oN]
 exact⟨e,by rw[aET h.1 hs];exact e⟩
theorem aPQ{ty e:bQb}{sz:Nat}{cs:List TV}(i:cU P ty=some e)(hs:aU P e=sz)(h0:0<sz):jU P ty (tL sz cs)=some (.int .i64 (cs.length/sz:Nat)):=by
 cases cs with
 |nil=>simp [tL,jU,i]
 |cons c l=>simp [tL,jU,i,hs,h0]
theorem aMO{ty e:bQb}{sz j:Nat}{cs:List TV}(i:cU P ty=some e)(E:dE P e=true)(hs:aU P e=sz)(h0:0<sz)(B:(j+1)*sz<=cs.length):mE P ty (tL sz cs) j=some (.pi cs (j*sz)):=by
 have u:cs≠ []:=fun e=>by
  subst e
  simp only[bJm,Nat.le_zero,Nat.mul_eq_zero]at B
  omega
 rw[aAI u]
 simp [mE,i,E,hs,h0,B]
theorem aEE{t:bQb}{s:VS}{cs:List TV}{off:Nat}(p:jY P t=false):kD P t s (.pi cs off)=cs[off]? :=by simp [kD,pU,p]
end
end
section
section
variable {et:fO}{k:bQc}{x y:Nat}
theorem aSQ:bX et .lss (.int k (x:Int)) (.int k (y:Int))=some (.b (decide (x<y))):=by simp [bX,dY]
theorem aRk:bX et .leq (.int k (x:Int)) (.int k (y:Int))=some (.b (decide (x<=y))):=by simp [bX,dY]
theorem aSP:bX et .gtr (.int k (x:Int)) (.int k (y:Int))=some (.b (decide (y<x))):=by simp [bX,dY]
theorem aRQ:bX et .geq (.int k (x:Int)) (.int k (y:Int))=some (.b (decide (y<=x))):=by simp [bX,dY]
theorem aRV:bX et .eql (.int k (x:Int)) (.int k (y:Int))=some (.b (decide (x=y))):=by simp only[bX,dY,if_true];congr 2;exact decide_eq_decide.2 (by omega)
theorem aSr:bX et .neq (.int k (x:Int)) (.int k (y:Int))=some (.b (!decide (x=y))):=by simp only[bX,dY,if_true];congr 3;exact decide_eq_decide.2 (by omega)
theorem uP{z:Int}(h1: -9223372036854775808<=z)(h2:z<9223372036854775808):IntKind.i64.wrap z=z:=by
 have w:(2^IntKind.i64.bits:Int)=18446744073709551616:=rfl
 have A:(2^(IntKind.i64.bits-1):Int)=9223372036854775808:=rfl
 unfold IntKind.wrap
 simp only[w,A,IntKind.signed,bJI,decide_eq_true_eq]
 split<;>omega
theorem aRD(h:x+y<9223372036854775808):bX et .add (.int .i64 (x:Int)) (.int .i64 (y:Int))=some (.int .i64 ((x+y:Nat):Int)):=by
 simp only[bX,dY,if_true];rw[uP (by omega) (by omega)];simp
theorem aSU(h1:y<=x)(h:x<9223372036854775808):bX et .sub (.int .i64 (x:Int)) (.int .i64 (y:Int))=some (.int .i64 ((x-y:Nat):Int)):=by
 simp only[bX,dY,if_true];rw[uP (by omega) (by omega)];congr 2;omega
theorem aSR(h:x*y<9223372036854775808):bX et .mul (.int .i64 (x:Int)) (.int .i64 (y:Int))=some (.int .i64 ((x*y:Nat):Int)):=by
 simp only[bX,dY,if_true]
 have:(x:Int)*(y:Int)=((x*y:Nat):Int):=by simp
 rw[this,uP (by omega) (by omega)]
theorem aRl(h1:0<y)(h:x<9223372036854775808):bX et .quo (.int .i64 (x:Int)) (.int .i64 (y:Int))=some (.int .i64 ((x/y:Nat):Int)):=by
 simp only[bX,dY,if_true];rw[if_pos ⟨by omega,by omega,by simp only[jD];omega⟩];simp
theorem aRS(h1:0<y)(h:x<9223372036854775808):bX et .rem (.int .i64 (x:Int)) (.int .i64 (y:Int))=some (.int .i64 ((x%y:Nat):Int)):=by
 simp only[bX,dY,if_true];rw[if_pos ⟨by omega,by omega,by simp only[jD];omega⟩];simp
theorem aU4:TV.nat (.int k (x:Int))=some x:=rfl
theorem aT0{b:Bool}:TV.bool (.b b)=some b:=rfl
end
end
section
theorem sO{s:VS}{t:TV}(h:cP t)(hs:dA t<=cK):dM s [t]=some (t,false):=by
 have hc:=(mY cK).1 (s:=s) h.1 hs
 unfold dM
 split
 ·rename_i e;cases e
 ·rename_i k off len sz e
  cases e
  have:=h.1
  simp [cI]at this
 ·rename_i a F e
  cases e
  rw[hc];simp only[bJk,h.2]
 ·rename_i e;cases e
  have:=h.1
  simp [cI]at this
 ·rename_i h1 h2 G
  first|exact absurd rfl (h2 _)|exact(h2 _ rfl).elim
end
section
theorem aQe:eA.nxt=0:=rfl
theorem aSB(k:Nat):eA.ob k=⟨2,[]⟩:=rfl
theorem sN(s:VS)(cs:List TV):(s.new cs).nxt=s.nxt+1:=rfl
theorem qI(s:VS)(k:Nat)(o:Ob):(s.set k o).nxt=s.nxt:=rfl
theorem iP(s:VS)(cs:List TV)(k:Nat):(s.new cs).ob k=pk (k==s.nxt) ⟨0,cs⟩ (s.ob k):=by
 show(if k=s.nxt then(⟨0,cs⟩:Ob)else s.ob k)=_
 by_cases h:k=s.nxt
 ·subst h;simp [pk]
 ·rw[if_neg h,show(k==s.nxt)=false by simpa using h];rfl
theorem lG(s:VS)(k j:Nat)(o:Ob):(s.set k o).ob j=pk (j==k) o (s.ob j):=by
 show(if j=k then o else s.ob j)=_
 by_cases h:j=k
 ·subst h;simp [pk]
 ·rw[if_neg h,show(j==k)=false by simpa using h];rfl
section
variable {P:bQe}{cal:jM}{orc:cN}
theorem aO0{t:bQb}{s:VS}{k off:Nat}:kD P t s (.po k off)=if k<s.nxt/\(s.ob k).how≠2 then pU P t off (s.ob k).cs else none:=rfl
theorem aNI{t:bQb}{s:VS}{v:TV}{k off:Nat}:aAv P t s v (.po k off)=if k<s.nxt/\(s.ob k).how=0/\v.cells.length=aU P t/\iI v.cells=true then(gS v.cells off (s.ob k).cs).map fun cs=>s.set k ⟨0,cs⟩else none:=rfl
theorem aOE{cs:List TV}:(TV.ag cs).cells=cs:=rfl
theorem aF0{sz:Nat}{cs:List TV}:(tL sz cs).cells=[tL sz cs]:=by cases cs<;>rfl
theorem aQC{b:Bool}:(TV.b b).cells=[.b b]:=rfl
theorem aNx{k:bQc}{z:Int}:(TV.int k z).cells=[.int k z]:=rfl
theorem aG4{sz:Nat}{cs:List TV}:(tL sz cs).one=true:=by cases cs<;>rfl
theorem aGm{b:Bool}:(TV.b b).one=true:=rfl
theorem aQl{k:bQc}{z:Int}:(TV.int k z).one=true:=rfl
theorem aRg:TV.em.one=true:=rfl
theorem aSF{k o:Nat}:(TV.po k o).one=true:=rfl
theorem aDs{k o l s:Nat}:(TV.ow k o l s).one=true:=rfl
theorem aPU{b:Bool}:zJ .not (.b b)=some (.b (!b)):=rfl
theorem bCd{cC:lW}{f:bQf}(h:cC f=false){n:Nat}{args:List TV}{s:VS}:fH P cC orc n f args s=fD orc f args s:=by
 cases n with
 |zero=>rfl
 |succ n=>simp only[fH,h,bIY,if_false]
end
end
section
section
variable {et:fO}{x y:Nat}
theorem aBt(h:x<18446744073709551616):IntKind.u64.wrap (x:Int)=(x:Int):=by
 have d:(2^IntKind.u64.bits:Int)=18446744073709551616:=rfl
 unfold IntKind.wrap
 simp only[d,IntKind.signed,bKI,bIY,if_false]
 omega
theorem aIq:IntKind.u32.wrap (x:Int)=((x%4294967296:Nat):Int):=by
 have f:(2^IntKind.u32.bits:Int)=4294967296:=rfl
 unfold IntKind.wrap
 simp only[f,IntKind.signed,bKI,bIY,if_false]
 omega
theorem aNB(h:x<9223372036854775808):IntKind.i64.wrap (x:Int)=(x:Int):=uP (by omega) (by omega)
theorem aR0(h:x+y<18446744073709551616):bX et .add (.int .u64 (x:Int)) (.int .u64 (y:Int))=some (.int .u64 ((x+y:Nat):Int)):=by
 simp only[bX,dY,if_true]
 rw[show(x:Int)+(y:Int)=((x+y:Nat):Int) by simp,aBt h]
theorem aQj(h:y<=x)(h2:x<18446744073709551616):bX et .sub (.int .u64 (x:Int)) (.int .u64 (y:Int))=some (.int .u64 ((x-y:Nat):Int)):=by
 simp only[bX,dY,if_true]
 rw[show(x:Int)-(y:Int)=((x-y:Nat):Int) by omega,aBt (by omega)]
theorem aQv(h:x*y<18446744073709551616):bX et .mul (.int .u64 (x:Int)) (.int .u64 (y:Int))=some (.int .u64 ((x*y:Nat):Int)):=by
 simp only[bX,dY,if_true]
 rw[show(x:Int)*(y:Int)=((x*y:Nat):Int) by simp,aBt h]
theorem aQ0(h1:0<y)(h:x<18446744073709551616):bX et .quo (.int .u64 (x:Int)) (.int .u64 (y:Int))=some (.int .u64 ((x/y:Nat):Int)):=by
 simp only[bX,dY,if_true];rw[if_pos ⟨by omega,by omega,by simp only[jD];omega⟩];simp
theorem aPy(h1:0<y)(h:x<18446744073709551616):bX et .rem (.int .u64 (x:Int)) (.int .u64 (y:Int))=some (.int .u64 ((x%y:Nat):Int)):=by
 simp only[bX,dY,if_true];rw[if_pos ⟨by omega,by omega,by simp only[jD];omega⟩];simp
theorem aPl(h1:0<y)(h:x<4294967296):bX et .quo (.int .u32 (x:Int)) (.int .u32 (y:Int))=some (.int .u32 ((x/y:Nat):Int)):=by
 simp only[bX,dY,if_true];rw[if_pos ⟨by omega,by omega,by simp only[jD];omega⟩];simp
theorem xJ{k:bQc}{n:Nat}(h:n<=64):bX et .shr (.int .u64 (x:Int)) (.int k (n:Int))=some (.int .u64 ((x/2^n:Nat):Int)):=by
 simp only[bX]
 rw[if_pos ⟨by omega,by omega⟩]
 simp only[qM,qM.bitsN',bKe,bJc h]
theorem xK{k:bQc}{n:Nat}(h:n<=64)(h2:x*2^n<18446744073709551616):bX et .shl (.int .u64 (x:Int)) (.int k (n:Int))=some (.int .u64 ((x*2^n:Nat):Int)):=by
 simp only[bX]
 rw[if_pos ⟨by omega,by omega⟩]
 simp only[qM,qM.bitsN',bKe,bJc h]
 rw[show(x:Int)*2^n=((x*2^n:Nat):Int) by simp,aBt h2]
theorem aOy{k:bQc}:bX et .shr (.int .u64 (x:Int)) (.int k ((32:Nat):Int))=some (.int .u64 ((x/4294967296:Nat):Int)):=xJ (by decide)
theorem aPp{k:bQc}(h:x<4294967296):bX et .shl (.int .u64 (x:Int)) (.int k ((32:Nat):Int))=some (.int .u64 ((x*4294967296:Nat):Int)):=xK (by decide) (by omega)
theorem aKj(h1:y<4294967296)(h2:x<4294967296):bX et .or (.int .u64 ((x*4294967296:Nat):Int)) (.int .u64 (y:Int))=some (.int .u64 ((x*4294967296+y:Nat):Int)):=by
 simp only[bX,dY,if_true]
 rw[if_pos ⟨by omega,by simp only[jD];omega,by omega,by simp only[jD];omega⟩]
 have:=Nat.two_pow_add_eq_or_of_lt (i:=32) (b:=y) (by omega) x
 congr 2
 simp only[bKe]
 have e:Nat.lor (x*4294967296) y=2^32*x|||y:=by rw[Nat.mul_comm];rfl
 rw[e,←this]
 congr 1
 omega
theorem aRT(h1:y<4294967296)(h2:x<4294967296):bX et .or (.int .u64 (y:Int)) (.int .u64 ((x*4294967296:Nat):Int))=some (.int .u64 ((y+x*4294967296:Nat):Int)):=by
 have h:=aKj (et:=et) h1 h2
 simp only[bX,dY,if_true]at h ⊢
 rw[if_pos ⟨by omega,by simp only[jD];omega,by omega,by simp only[jD];omega⟩]at h ⊢
 rw[show Nat.lor (y:Int).toNat ((x*4294967296:Nat):Int).toNat=Nat.lor ((x*4294967296:Nat):Int).toNat (y:Int).toNat from Nat.or_comm _ _,h,bJW]
theorem aR7(h1:y<4294967296)(h2:x<4294967296):bX et .or (.int .u32 (x:Int)) (.int .u32 (y:Int))=some (.int .u32 ((x|||y:Nat):Int)):=by
 simp only[bX,dY,if_true]
 rw[if_pos ⟨by omega,by simp only[jD];omega,by omega,by simp only[jD];omega⟩]
 rfl
def iz(n:Nat):Int:=(n:Int)-1
theorem vG(h:0<x):iz x=((x-1:Nat):Int):=by unfold iz;omega
theorem xP(h:x<9223372036854775808):bX et .sub (.int .i64 (x:Int)) (.int .i64 ((1:Nat):Int))=some (.int .i64 (iz x)):=by
 simp only[bX,dY,if_true];rw[uP (by omega) (by omega)];rfl
theorem aMD:bX et .geq (.int .i64 (iz x)) (.int .i64 ((0:Nat):Int))=some (.b (decide (0<x))):=by
 simp only[bX,dY,if_true];congr 2;exact decide_eq_decide.2 (by unfold iz;omega)
theorem aNP{k:bQc}:(aC (.int k (-1))).bind aM=some (.int k (-1)):=rfl
theorem aOj{k:bQc}:Value.int k (-1)=Value.int k (Int.negSucc 0):=rfl
theorem aOH{k:bQc}:TV.int k (Int.negSucc 0)=TV.int k (-1):=rfl
end
theorem aMj(l:List TV):gS [] 0 l=some l:=by simp [gS]
theorem aLK(a c:TV)(v l:List TV):gS (a::v) 0 (c::l)=(gS v 0 l).map (a:: ·):=by
 simp only[gS,bIV,bJl]
 by_cases h:v.length<=l.length
 ·rw[if_pos (by omega),if_pos h];simp
 ·rw[if_neg (by omega),if_neg h];rfl
theorem aNg(c:TV)(n:Nat)(v l:List TV):gS v (n+1) (c::l)=(gS v n l).map (c:: ·):=by
 simp only[gS,bIV]
 by_cases h:n+v.length<=l.length
 ·rw[if_pos (by omega),if_pos h];simp [show n+1+v.length=(n+v.length)+1 by omega]
 ·rw[if_neg (by omega),if_neg h];rfl
end
section
theorem ift{α:Type}{a b:α}:(if True then a else b)=a:=rfl
theorem aTM{α:Type}{a b:α}:(if False then a else b)=b:=rfl
theorem aM6{t:Tmp}:nA (.tmp t)=false:=rfl
theorem aLE{k:bQc}{z:Int}:nA (.const (.int k z))=false:=rfl
theorem aLo{b:Bool}:nA (.const (.bool b))=false:=rfl
theorem aLR{b:ByteArray}:nA (.const (.string b))=false:=rfl
theorem aMs:nA (.const .nilFunc)=false:=rfl
theorem aMN{a:Option Addr}{n c:Nat}:nA (.const (.slice a n c))=false:=rfl
theorem aMZ{f:bQf}:nA (.func f)=false:=rfl
theorem aMU{g:Nat}:nA (.global g)=false:=rfl
theorem aLU:nA (.const .nilIface)=true:=rfl
theorem aR6{b:Bool}:veq .eql b=some (.b b):=rfl
theorem aQ4{b:Bool}:veq .neq b=some (.b (!b)):=rfl
theorem aQA:vni (.lit .nilIface)=some true:=rfl
theorem aQp:vni .err=some false:=rfl
theorem SS:type_of%(And.intro @aOH (And.intro @aOj (And.intro @aNP (And.intro @aMD (And.intro @xP (And.intro @aPl (And.intro @vG (And.intro @aRh (And.intro @aOA (And.intro @aSb (And.intro @aPK (And.intro @aRA (And.intro @aR5 (And.intro @aPv (And.intro @aTw (And.intro @aJd (And.intro @aS4 (And.intro @aQf (And.intro @aRc (And.intro @aOg (And.intro @aTN (And.intro @aTS (And.intro @aTX (And.intro @aTA (And.intro @aTP (And.intro @aTZ (And.intro @aTy (And.intro @aTW (And.intro @aT4 (And.intro @aLZ (And.intro @aME (And.intro @aQF (And.intro @aTU (And.intro @aTJ (And.intro @aOw (And.intro @aSI (And.intro @aRE (And.intro @aSs (And.intro @aSX (And.intro @bIS.{0,0} (And.intro @bJk.{0,0} (And.intro @aPM (And.intro @aMH (And.intro @aLI (And.intro @aNm (And.intro @beq_self_eq_true.{0} (And.intro @bKz (And.intro @bLd (And.intro @bIY (And.intro @aSQ (And.intro @aRk (And.intro @aSP (And.intro @aRQ (And.intro @aRV (And.intro @aSr (And.intro @aU4 (And.intro @aT0 (And.intro @aQe (And.intro @sN (And.intro @qI (And.intro @iP (And.intro @lG (And.intro @aSB (And.intro @aO0 (And.intro @aNI (And.intro @aOE (And.intro @aF0 (And.intro @aQC (And.intro @aNx (And.intro @bIV.{0} (And.intro @bJm.{0} (And.intro @bJl (And.intro @bJD (And.intro @bJN.{0} (And.intro @bKr.{0} (And.intro @aG4 (And.intro @aGm (And.intro @aQl (And.intro @aRg (And.intro @aSF (And.intro @aDs (And.intro @bJv (And.intro @bKI (And.intro @bLq (And.intro @bK6 (And.intro @bJI (And.intro @and_self (And.intro @and_true (And.intro @true_and (And.intro @ne_eq.{1} (And.intro @not_false_eq_true (And.intro @not_true_eq_false (And.intro @bL9.{0} (And.intro @bKG.{0} (And.intro @bLI.{0} (And.intro @bJd.{0} (And.intro @bJO.{0} (And.intro @bJG.{0} (And.intro @bK3.{0} (And.intro @bLL.{0} (And.intro @bKy.{0} (And.intro @List.drop_nil.{0} (And.intro @List.take_nil.{0} (And.intro @Option.isSome_some.{0} (And.intro @decide_true (And.intro @decide_false (And.intro @aPU (And.intro @implies_true.{1} (And.intro @Option.some.injEq.{0} (And.intro @Prod.mk.injEq.{0,0} (And.intro @if_pos.{1} (And.intro @aBt (And.intro @aIq (And.intro @aNB (And.intro @aR0 (And.intro @aQj (And.intro @aQv (And.intro @aQ0 (And.intro @aPy (And.intro @aOy (And.intro @aPp (And.intro @aKj (And.intro @aMj (And.intro @aLK (And.intro @aNg (And.intro @bJX.{0} (And.intro @bJz.{0} (And.intro @aRD (And.intro @aSU (And.intro @aSR (And.intro @aRl (And.intro @aRS (And.intro @ift (And.intro @aTM (And.intro @aRT (And.intro @aR7 (And.intro @aSu (And.intro @aM6 (And.intro @aLE (And.intro @aLo (And.intro @aLR (And.intro @aMs (And.intro @aLU (And.intro @aMN (And.intro @aMZ (And.intro @aMU (And.intro @aR6 (And.intro @aQ4 (And.intro @aQA (@aQp)))))))))))))))))))))))))))))))))))))))))))))))))))))))))))))))))))))))))))))))))))))))))))))))))))))))))))))))))))))))))))))))))))))))))))))))))))))):=(And.intro @aOH (And.intro @aOj (And.intro @aNP (And.intro @aMD (And.intro @xP (And.intro @aPl (And.intro @vG (And.intro @aRh (And.intro @aOA (And.intro @aSb (And.intro @aPK (And.intro @aRA (And.intro @aR5 (And.intro @aPv (And.intro @aTw (And.intro @aJd (And.intro @aS4 (And.intro @aQf (And.intro @aRc (And.intro @aOg (And.intro @aTN (And.intro @aTS (And.intro @aTX (And.intro @aTA (And.intro @aTP (And.intro @aTZ (And.intro @aTy (And.intro @aTW (And.intro @aT4 (And.intro @aLZ (And.intro @aME (And.intro @aQF (And.intro @aTU (And.intro @aTJ (And.intro @aOw (And.intro @aSI (And.intro @aRE (And.intro @aSs (And.intro @aSX (And.intro @bIS.{0,0} (And.intro @bJk.{0,0} (And.intro @aPM (And.intro @aMH (And.intro @aLI (And.intro @aNm (And.intro @beq_self_eq_true.{0} (And.intro @bKz (And.intro @bLd (And.intro @bIY (And.intro @aSQ (And.intro @aRk (And.intro @aSP (And.intro @aRQ (And.intro @aRV (And.intro @aSr (And.intro @aU4 (And.intro @aT0 (And.intro @aQe (And.intro @sN (And.intro @qI (And.intro @iP (And.intro @lG (And.intro @aSB (And.intro @aO0 (And.intro @aNI (And.intro @aOE (And.intro @aF0 (And.intro @aQC (And.intro @aNx (And.intro @bIV.{0} (And.intro @bJm.{0} (And.intro @bJl (And.intro @bJD (And.intro @bJN.{0} (And.intro @bKr.{0} (And.intro @aG4 (And.intro @aGm (And.intro @aQl (And.intro @aRg (And.intro @aSF (And.intro @aDs (And.intro @bJv (And.intro @bKI (And.intro @bLq (And.intro @bK6 (And.intro @bJI (And.intro @and_self (And.intro @and_true (And.intro @true_and (And.intro @ne_eq.{1} (And.intro @not_false_eq_true (And.intro @not_true_eq_false (And.intro @bL9.{0} (And.intro @bKG.{0} (And.intro @bLI.{0} (And.intro @bJd.{0} (And.intro @bJO.{0} (And.intro @bJG.{0} (And.intro @bK3.{0} (And.intro @bLL.{0} (And.intro @bKy.{0} (And.intro @List.drop_nil.{0} (And.intro @List.take_nil.{0} (And.intro @Option.isSome_some.{0} (And.intro @decide_true (And.intro @decide_false (And.intro @aPU (And.intro @implies_true.{1} (And.intro @Option.some.injEq.{0} (And.intro @Prod.mk.injEq.{0,0} (And.intro @if_pos.{1} (And.intro @aBt (And.intro @aIq (And.intro @aNB (And.intro @aR0 (And.intro @aQj (And.intro @aQv (And.intro @aQ0 (And.intro @aPy (And.intro @aOy (And.intro @aPp (And.intro @aKj (And.intro @aMj (And.intro @aLK (And.intro @aNg (And.intro @bJX.{0} (And.intro @bJz.{0} (And.intro @aRD (And.intro @aSU (And.intro @aSR (And.intro @aRl (And.intro @aRS (And.intro @ift (And.intro @aTM (And.intro @aRT (And.intro @aR7 (And.intro @aSu (And.intro @aM6 (And.intro @aLE (And.intro @aLo (And.intro @aLR (And.intro @aMs (And.intro @aLU (And.intro @aMN (And.intro @aMZ (And.intro @aMU (And.intro @aR6 (And.intro @aQ4 (And.intro @aQA (@aQp))))))))))))))))))))))))))))))))))))))))))))))))))))))))))))))))))))))))))))))))))))))))))))))))))))))))))))))))))))))))))))))))))))))))))))))))))))))
end
section
structure EC(α:Type) where
 c:α->List TV
 sz:Nat
 pos:0<sz
 len:∀a,(c a).length=sz
 can:∀a,Can (c a)
 one:∀a,iI (c a)=true
 siz:Nat
 hsz:∀a,bW (c a)<=siz
section
variable {α:Type}(E:EC α)
def EC.row(l:List α):List TV:=l.flatMap E.c
def EC.t(l:List α):TV:=tL E.sz (E.row l)
theorem EC.row_cons(a:α)(l:List α):E.row (a::l)=E.c a++E.row l:=rfl
theorem EC.row_app(l m:List α):E.row (l++m)=E.row l++E.row m:=List.flatMap_append
theorem EC.row_len:∀l:List α,(E.row l).length=l.length*E.sz
 | []=>by simp [EC.row]
 |a::l=>by rw[E.row_cons,bJ3,E.len,EC.row_len l,bIV,bJT,bJW]
theorem EC.row_can(l:List α):Can (E.row l):=Can.flat E.can l
theorem EC.t_can(l:List α):cP (E.t l):=cP.tL E.pos (E.row_can l)
theorem EC.t_siz(l:List α):dA (E.t l)=1:=by unfold EC.t;cases E.row l<;>rfl
theorem EC.t_one{l:List α}:(E.t l).one=true:=aG4
theorem EC.t_cells{l:List α}:(E.t l).cells=[E.t l]:=aF0
theorem aOz:∀(a b:List TV),bW (a++b)+1=bW a+bW b
 | [],b=>by simp only[bJO,bW];omega
 |x::a,b=>by have:=aOz a b;simp only[bJG,bW];omega
theorem EC.row_siz:∀l:List α,bW (E.row l)<=l.length*E.siz+1
 | []=>by simp [EC.row,bW]
 |a::l=>by
  have h1:=E.hsz a
  have h2:=EC.row_siz l
  have y:=aOz (E.c a) (E.row l)
  rw[E.row_cons,bIV,bJT]
  omega
theorem aYv(a b:List TV):iI (a++b)=(iI a&&iI b):=by simp [iI]
theorem EC.row_one:∀l:List α,iI (E.row l)=true
 | []=>rfl
 |a::l=>by rw[E.row_cons,aYv,E.one,EC.row_one l];rfl
theorem EC.drop:∀(l:List α) (n:Nat),(E.row l).drop (n*E.sz)=E.row (l.drop n)
 | [],n=>by simp [EC.row]
 |a::l,0=>by simp
 |a::l,n+1=>by
  rw[E.row_cons,bJT,bMf,E.len,bMd (by rw[E.len];omega),bJO,bJw,EC.drop l n,bLI]
theorem EC.take:∀(l:List α) (n:Nat),(E.row l).take (n*E.sz)=E.row (l.take n)
 | [],n=>by simp [EC.row]
 |a::l,0=>by simp [EC.row]
 |a::l,n+1=>by
  rw[E.row_cons,bJT,bM2,E.len,bJ2 (by rw[E.len];omega),bJw,EC.take l n,bL9,E.row_cons]
variable [Inhabited α]
theorem EC.at_{l:List α}{j:Nat}(h:j<l.length):(E.row l).drop (j*E.sz)=E.c (l.getD j default)++E.row (l.drop (j+1)):=by
 rw[E.drop,bKH h,E.row_cons]
 congr 2
 simp [h]
theorem EC.cut{l:List α}{j n o:Nat}(h:j<l.length)(hn:o+n<=E.sz):jF n (j*E.sz+o) (E.row l)=jF n o (E.c (l.getD j default)):=by
 have f:j*E.sz+E.sz<=(E.row l).length:=by rw[E.row_len,←bJT];exact bJ8 _ h
 unfold jF
 rw[if_pos (by omega),if_pos (by rw[E.len];omega)]
 congr 1
 rw[←List.drop_drop,E.at_ h,bMf,E.len,bM2,bJj,E.len,show n-(E.sz-o)=0 by omega,bKG,bK3]
theorem EC.get{l:List α}{j o:Nat}(h:j<l.length)(hn:o<E.sz):(E.row l)[j*E.sz+o]? =(E.c (l.getD j default))[o]? :=by
 have e:=congrArg (fun q=>q[o]?) (E.at_ h)
 simp only[List.getElem?_drop]at e
 rw[e,bKN (by rw[E.len];exact hn)]
theorem EC.cut0{l:List α}{j n:Nat}(h:j<l.length)(hn:n<=E.sz):jF n (j*E.sz) (E.row l)=jF n 0 (E.c (l.getD j default)):=E.cut (o:=0) h (by omega)
theorem EC.all{l:List α}{j:Nat}(h:j<l.length):jF E.sz (j*E.sz) (E.row l)=some (E.c (l.getD j default)):=by
 rw[E.cut0 h (bIK _)]
 unfold jF
 rw[if_pos (by rw[E.len];omega),bJd,bJ2 (by rw[E.len];omega)]
omit [Inhabited α]in
theorem EC.put{l:List α}{j:Nat}{a:α}(h:j<l.length):gS (E.c a) (j*E.sz) (E.row l)=some (E.row (l.set j a)):=by
 have f:j*E.sz+E.sz<=(E.row l).length:=by rw[E.row_len,←bJT];exact bJ8 _ h
 unfold gS
 rw[E.len,if_pos f,E.take,show j*E.sz+E.sz=(j+1)*E.sz by rw[bJT],E.drop,List.set_eq_take_append_cons_drop,if_pos h,E.row_app,E.row_cons,List.append_assoc]
end
section
variable {P:bQe}{α:Type}{E:EC α}
theorem aG0{ty e:bQb}{l:List α}(d:cU P ty=some e)(hs:aU P e=E.sz):jU P ty (E.t l)=some (.int .i64 (l.length:Nat)):=by
 unfold EC.t
 rw[aPQ d hs E.pos,E.row_len,bK2 _ E.pos]
theorem aF2{ty e:bQb}{l:List α}{j:Nat}(d:cU P ty=some e)(g:dE P e=true)(hs:aU P e=E.sz)(h:j<l.length):mE P ty (E.t l) j=some (.pi (E.row l) (j*E.sz)):=by
 unfold EC.t
 exact aMO d g hs E.pos (by rw[E.row_len];exact bJ8 _ h)
theorem aXc{ty e:bQb}{k off len j:Nat}(d:cU P ty=some e)(g:dE P e=true)(hs:aU P e=E.sz)(h:j<len):mE P ty (.ow k off len E.sz) j=some (.po k (off+j*E.sz)):=by
 simp only[mE,d,g,if_true,hs];rw[if_pos ⟨trivial,h⟩]
theorem aJy{ty e:bQb}{k off len sz:Nat}(d:cU P ty=some e):jU P ty (.ow k off len sz)=some (.int .i64 (len:Nat)):=by simp [jU,d]
theorem bER{ty e:bQb}(d:cU P ty=some e):jU P ty .em=some (.int .i64 ((0:Nat):Int)):=by simp [jU,d]
theorem bBe{ty e:bQb}{r:bB}{l:List α}{lo s:Option bQd}(d:cU P ty=some e)(g:dE P e=true)(hs:aU P e=E.sz):
  iX P ty r (E.t l) lo s none=(eM r 0 lo).bind fun a=>(eM r l.length s).bind fun b=>if a<=b/\b<=l.length then some (E.t ((l.drop a).take (b-a)))else none:=by
 have i:=E.pos
 cases l with
 | nil=>
  simp only[EC.t,EC.row,List.flatMap_nil,tL,iX,d,g,if_true,bJm]
  congr 1;funext a;congr 1;funext b
  by_cases u:b=0
  ·subst u
   by_cases v:a=0
   ·subst v;simp []
   ·rw[if_neg (by omega),if_neg (by omega)]
  ·rw[if_neg (by omega),if_neg (by omega)]
 | cons x l=>
  have p:E.row (x::l)≠ []:=fun e=>by
   have:=E.row_len (x::l)
   rw[e,bIV,bJT]at this
   simp only[bJm]at this
   omega
  have w:E.t (x::l)= .im E.sz (E.row (x::l)):=aAI p
  rw[w]
  simp only[iX,d,g,if_true,hs]
  rw[if_pos ⟨trivial,i⟩,E.row_len,bK2 _ i]
  congr 1;funext a;congr 1;funext b
  by_cases h:a<=b/\b<=(x::l).length
  ·rw[if_pos ⟨h.1,bJ8 _ h.2⟩,if_pos h,E.drop,E.take];rfl
  ·rw[if_neg (fun h'=>h ⟨h'.1,Nat.le_of_mul_le_mul_right h'.2 i⟩),if_neg h]
end
end
end Go.Proofs.YtmjoaipkaddkbaaGreatDoor.Ev