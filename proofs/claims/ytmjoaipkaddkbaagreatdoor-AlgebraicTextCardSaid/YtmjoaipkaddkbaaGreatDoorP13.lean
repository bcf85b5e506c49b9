/- Part of a proof. -/
import Derived.Test.YtmjoaipkaddkbaaGreatDoorP12
import Derived.Lib.LaidTab
import Derived.Shelf.Vars
import Derived.LaidMore
import Derived.Lay
import Derived.Test.YtmjoaipkaddkbaaGreatDoorRows
noncomputable section
open Nat renaming reduceBEq → zB, reduceEqDiff → zC, reduceAdd → zD, reduceMul → zE, reduceSub → zF, reduceLT → zG, reduceLeDiff → zH
open Array renaming length_toList→bKM
open Bool renaming and_eq_true→bIN
open Int renaming natAbs_mul→bJJ
open List renaming all_eq_true→bJt,elem_iff→bJP,length_append→bJ3,length_drop→bJj,length_map→bJB,length_take→bIW,map_map→bKj,mem_cons→bJ4,not_mem_nil→bKf
open Nat renaming ble_eq_true_of_le→bK0,eq_of_beq_eq_true→bJ0,le_of_ble_eq_true→bIU,le_refl→bIK,lt_of_lt_of_le→bIP,lt_succ_self→bIZ,mul_le_mul_left→bJ7,mul_lt_mul''→bKL,pow_le_pow_right→bJ9
open Option renaming bind_eq_some_iff→bIL,map_eq_some_iff→bIM
open Go renaming FuncId→bQf,Program→bQe,World→bQ9
set_option maxRecDepth 10000000
open Go
open Go.Proofs.Tryz
namespace Go.Proofs.YtmjoaipkaddkbaaGreatDoor.Ev
section
open Go Go.RowKit
theorem bFk{x:Bool×List Nat}(hl:bC x.2)(hg:dW x=true):fz (bZ x)=x:=by
 have h:=rM hl hg
 rw[←aTl]at h
 obtain⟨b,xs⟩:=x
 obtain⟨b',ys,e⟩:∃b' ys,fz (bZ (b,xs))=(b',ys):=⟨_,_,rfl⟩
 have hy:bC ys:=by
  have:(fz (bZ (b,xs))).2=ys:=by rw[e]
  rw[←this];exact cV _
 rw[e]at h ⊢
 unfold tX ci at h
 injection h with h
 injection h with h1 h2
 injection h1 with h1
 injection h2 with h2 _
 have h1:b=b':=h1
 rw[h1,aSz (xs:=xs) hl hy h2]
theorem aVY{l:List (Bool×List Nat)}(hl:∀x∈l,bC x.2)(hg:∀x∈l,dW x=true):(l.map bZ).map fz=l:=by
 rw[bKj]
 exact(List.map_congr_left fun x hx=>bFk (hl x hx) (hg x hx)).trans (List.map_id l)
theorem bDU{xs:List Nat}(hL:bC xs)(h:xs.length<=2):val xs<2^240:=by
 have:=iY hL
 exact bIP this (Nat.le_trans (bJ9 (by decide) h) (by decide))
set_option maxRecDepth 100000 in
set_option maxHeartbeats 4000000 in
theorem aZY{l:List (Bool×List Nat)}{r:Int}{A:Option Addr}{n c:Nat}{w:bQ9}(hL:∀x∈l,bC x.2)(hlen:l.length<9223372036854775807)(hr: -9223372036854775808<=r/\r<9223372036854775808)(htw:fX w)
  (haw:∀W,fX W->Calls PG 5 #[] W fun e w'=>e= .returned (.bool true)/\Below W.heap.size W w') (hv:WT w (.agg #[.slice A n c,.int .i64 r]) (tF l r)):
  Calls PG 3 #[.agg #[.slice A n c,.int .i64 r]] w fun e w'=>e= .returned (.bool true)/\bE w w':=by
 have HAW:=Lib.hid haw
 have HT:=Lib.hid htw
 have HV:=Lib.hid hv
 have HL:=Lib.hid hL
 have HLEN:=Lib.hid hlen
 have HR:=Lib.hid hr
 clear haw htw hv hL hlen hr
 have hb1:bE w (w.alloc (.cells #[.slice A n c,.int .i64 r] 24)):=bE.alloc _ _
 obtain⟨x0,x1, -, -⟩:=yH (Below.heap_new w (.cells #[.slice A n c,.int .i64 r] 24))
 go_enter func3,ntmps3
 go_wp2_with fail
 refine(HAW.out _ (HT.out.below hb1)).mono ?_
 rintro e w1 ⟨rfl,hx1⟩
 have hE1:bE w w1:=bE.trans hb1 hx1
 replace x0:=(hx1.cell (p:=⟨w.heap.size,0,none⟩) (by simp)).trans x0
 replace x1:=(hx1.cell (p:=⟨w.heap.size,1,none⟩) (by simp)).trans x1
 have hs1:w.heap.size<w1.heap.size:=by have:=hx1.size;simp at this;omega
 have HF:=Lib.hid (aYA HLEN.out (HT.out.below hE1) (HV.out.ext hE1.block))
 have HE1:=Lib.hid hE1
 clear hb1 hx1 hE1
 generalize hfw:(l.all (fun x=>decide (x.2.length<=2))&&decide (l.length<=7))=fw at*
 cases fw with
 |false=>
  go_wp2_with fail
  refine HF.out.mono ?_
  rintro e w2 ⟨rfl,hx2⟩
  have HT2:=Lib.hid ((HT.out.below HE1.out).below hx2)
  clear HF
  go_wp2_with fail
  refine(HAW.out _ HT2.out).mono ?_
  rintro e w3 ⟨rfl,hx3⟩
  go_wp2_with fail
  go_ret
  exact⟨rfl,bE.trans (bE.trans HE1.out hx2) hx3⟩
 | true=>
  rw[bIN]at hfw
  obtain⟨hf1,hf2⟩:=hfw
  have hl7:l.length<=7:=of_decide_eq_true hf2
  have hl2:∀x∈l,x.2.length<=2:=fun x hx=>of_decide_eq_true (bJt.1 hf1 x hx)
  have hlx:∀x∈l,bC x.2/\val x.2<2^240/\x.2.length<1000:=fun x hx=>⟨HL.out x hx,bDU (HL.out x hx) (hl2 x hx),by have:=hl2 x hx;omega⟩
  have HLX:=Lib.hid hlx
  clear hf1 hf2 hl2 hlx
  go_wp2_with fail
  refine HF.out.mono ?_
  rintro e w2 ⟨rfl,hx2⟩
  have hE2:bE w w2:=bE.trans HE1.out hx2
  replace x0:=(hx2.cell (p:=⟨w.heap.size,0,none⟩) hs1).trans x0
  replace x1:=(hx2.cell (p:=⟨w.heap.size,1,none⟩) hs1).trans x1
  have hs2:w.heap.size<w2.heap.size:=bIP hs1 hx2.size
  have HVL:=Lib.hid (aVI hl7 HLX.out HR.out (HT.out.below hE2) (HV.out.ext hE2.block))
  have HE2:=Lib.hid hE2
  clear HF hx2 hE2 hs1 HE1
  generalize hvv:(l.all dW&&vz (l.map bZ) r)=vv at*
  cases vv with
  |false=>
   go_wp2_with fail
   refine HVL.out.mono ?_
   rintro e w3 ⟨rfl,hx3⟩
   have HT3:=Lib.hid ((HT.out.below HE2.out).below hx3)
   clear HVL
   go_wp2_with fail
   refine(HAW.out _ HT3.out).mono ?_
   rintro e w4 ⟨rfl,hx4⟩
   go_wp2_with fail
   go_ret
   exact⟨rfl,bE.trans (bE.trans HE2.out hx3) hx4⟩
  | true=>
   go_wp2_with fail
   refine HVL.out.mono ?_
   rintro e w3 ⟨rfl,hx3⟩
   have hE3:bE w w3:=bE.trans HE2.out hx3
   replace x0:=(hx3.cell (p:=⟨w.heap.size,0,none⟩) hs2).trans x0
   replace x1:=(hx3.cell (p:=⟨w.heap.size,1,none⟩) hs2).trans x1
   have hs3:w.heap.size<w3.heap.size:=bIP hs2 hx3.size
   rw[bIN]at hvv
   obtain⟨hg,hvz⟩:=hvv
   have hml:=aVY HL.out (bJt.1 hg)
   have hsz:yW (l.map bZ):=⟨by rw[bJB];exact hl7,fun z hz=>by
    obtain⟨x,hx,rfl⟩:=List.mem_map.1 hz
    rw[oY];exact(HLX.out x hx).2.1⟩
   obtain⟨r0,r7⟩:=aQt hsz hvz
   have hvs:WT w3 (.slice A n c) (eB l):=by
    have h:=HV.out.ext hE3.block
    cases h with |ag h=>
    cases h with |cons h _=>exact h
   have HOW:=Lib.hid (bBi (r:=r) (by omega:l.length<=1000) (fun x hx=>⟨HL.out x hx,by have:=(HLX.out x hx).2.2;omega⟩) hvs)
   have HT3:=Lib.hid (HT.out.below hE3)
   have HE3:=Lib.hid hE3
   obtain⟨rn,rfl⟩:∃rn:Nat,r=(rn:Int):=⟨r.toNat,by omega⟩
   have hfm:yR l rn=kN (l.map bZ) rn:=by
    unfold yR
    rw[hg,hvz];rfl
   have HFM:=Lib.hid hfm
   have HML:=Lib.hid hml
   have HVZ:=Lib.hid hvz
   have HSZ:=Lib.hid hsz
   have hv3:WT w3 (.agg #[.slice A n c,.int .i64 rn]) (tF l rn):=HV.out.ext hE3.block
   have HV3:=Lib.hid hv3
   clear HVL hx3 hs2 HE2 hE3 hg hvz hml hvs hfm hsz hv3
   go_wp2_with fail
   refine HOW.out.mono ?_
   rintro e w4 ⟨v4,rfl,hx4,hv4⟩
   have HFC:=Lib.hid (aOF (aIB (m:=0) hl7 HLX.out HR.out) (HT3.out.below hx4) (.cons hv4 .nil))
   rw[HFM.out]at HFC
   replace x0:=(hx4.cell (p:=⟨w.heap.size,0,none⟩) hs3).trans x0
   replace x1:=(hx4.cell (p:=⟨w.heap.size,1,none⟩) hs3).trans x1
   have hs4:w.heap.size<w4.heap.size:=bIP hs3 hx4.size
   have HX4:=Lib.hid hx4
   clear HOW hx4 hv4
   go_wp2_with fail
   refine HFC.out.mono ?_
   rintro e w5 ⟨v5,rfl,hx5,hv5⟩
   cases hv5
   have HX5:Hid (bE w3 w5):=bE.trans HX4.out hx5
   replace x0:=(hx5.cell (p:=⟨w.heap.size,0,none⟩) hs4).trans x0
   replace x1:=(hx5.cell (p:=⟨w.heap.size,1,none⟩) hs4).trans x1
   have hs5:w.heap.size<w5.heap.size:=bIP hs4 hx5.size
   have hpp:=aIz (m:=0) (zs:=l.map bZ) (r:=rn) (fun e=>by have:=HVZ.out;rw[e]at this;cases this) HSZ.out.1 HSZ.out.2 (by omega)
   rw[HVZ.out,if_pos rfl,HML.out]at hpp
   have HPC:=Lib.hid (aOF hpp (HT3.out.below HX5.out) (.cons (.str _) .nil))
   clear HFC hx5 hpp HX4
   go_wp2_with fail
   refine HPC.out.mono ?_
   rintro e w6 ⟨v6,rfl,hx6,hv6⟩
   replace x0:=(hx6.cell (p:=⟨w.heap.size,0,none⟩) hs5).trans x0
   replace x1:=(hx6.cell (p:=⟨w.heap.size,1,none⟩) hs5).trans x1
   have hs6:w.heap.size<w6.heap.size:=bIP hs5 hx6.size
   cases hv6 with |tp hv6=>
   cases hv6 with |cons ha hl=>
   cases hl with |cons hb hl=>
   cases hl
   cases hb
   cases ha with |ag ha=>
   cases ha with |cons hp hq=>
   cases hq with |cons hq hl=>
   cases hl
   cases hq
   have HX6:Hid (bE w3 w6):=bE.trans HX5.out hx6
   obtain⟨Ap,cp,rfl, -⟩:=aDG (n:=l.length) (sz:=2) (by decide) (ts:=eV.row l) (eV.row_len l) (show WT w6 _ (eB l)from hp)
   have hv7:WT w6 (.agg #[.slice Ap l.length cp,.int .i64 rn]) (tF l rn):= .ag (.cons hp (.cons (.int _ _) .nil))
   have HV7:=Lib.hid hv7
   obtain⟨z0,z1, -, -⟩:=yH (Below.heap_new w6 (.cells #[.slice Ap l.length cp,.int .i64 rn] 24))
   have hxa:bE w6 (w6.alloc (.cells #[.slice Ap l.length cp,.int .i64 rn] 24)):=bE.alloc _ _
   have HSC:Hid (Calls PG 11 #[.agg #[.slice A n c,.int .i64 rn],.agg #[.slice Ap l.length cp,.int .i64 rn]] (w6.alloc (.cells #[.slice Ap l.length cp,.int .i64 rn] 24)) fun e w'=>e= .returned (.bool true)/\Below (w6.alloc (.cells #[.slice Ap l.length cp,.int .i64 rn] 24)).heap.size (w6.alloc (.cells #[.slice Ap l.length cp,.int .i64 rn] 24)) w'):=by
    refine aW3 (zs:=l.map bZ) (r:=(rn:Int)) (by rw[bJB];omega) HSZ.out.2 (HT3.out.below (bE.trans HX6.out hxa)) ?_ ?_
    ·rw[HML.out];exact(HV3.out.ext (bE.trans HX6.out hxa).block)
    ·rw[HML.out];exact HV7.out.ext hxa.block
   replace x0:=(hxa.cell (p:=⟨w.heap.size,0,none⟩) hs6).trans x0
   replace x1:=(hxa.cell (p:=⟨w.heap.size,1,none⟩) hs6).trans x1
   clear HPC hx6 hp hv7 hxa
   go_wp2_with fail
   refine HSC.out.mono ?_
   rintro e w8 ⟨rfl,hx8⟩
   go_wp2_with fail
   go_ret
   exact⟨rfl,bE.trans HE3.out (bE.trans HX6.out (bE.trans (bE.alloc _ _) hx8))⟩
end
section
open Go Go.RowKit Go.Proofs.YtmjoaipkaddkbaaGreatDoor
theorem aLz{Γ:aP}{k:IntKind}:∀l:List Nat,bU Γ (l.map (AV.i k)) (l.map fun n=>Value.int k ((n:Nat):Int))
 | []=> .nil
 |n::l=> .cons (.i k n) (aLz l)
theorem aUU{P:bQe}{W:bQ9}{name:String}{k:IntKind}{zs:List Int}{rest:List (String×DataW Unit)}{ps:List MemPlace}{g:Nat}{t e:TypeId}{n:Nat}
  (F:P.globalNamed name=some g) (v:(P.globals[g]?).map (·.type)=some t) (G:P.underlying t=some (.array n e)) (H:P.underlying e=some (.int k)) (y:P.cellsOf e=1) (A:P.cellsOf t=n)
  (h:DataW.LaidVars P W ((name,Lib.tabData k zs)::rest) ps):Lib.TabIs P W name k zs:=by
 obtain⟨L,M,cs,fuel,p,q,B,C,j,I,_,_⟩:=h
 obtain rfl:=Option.some.inj (F.symm.trans B)
 obtain rfl:=Option.some.inj (v.symm.trans C)
 unfold Lib.TabIs
 rw[j,←Lib.cells_of_tab G H y A I]
theorem aNl{P:bQe}{W:bQ9}{x:String×DataW Unit}{rest:List (String×DataW Unit)}{ps:List MemPlace}(h:DataW.LaidVars P W (x::rest) ps):∃q,DataW.LaidVars P W rest q:=by
 obtain⟨n,d⟩:=x
 obtain⟨_,_,_,_,_,q,_,_,_,_,h,_⟩:=h
 exact⟨q,h⟩
def aGu:List Nat:=[1,10,100,1000,10000,100000,1000000,10000000,100000000,1000000000,10000000000,100000000000,1000000000000,10000000000000,100000000000000,1000000000000000,10000000000000000,100000000000000000,1000000000000000000,10000000000000000000]
theorem bAD{w:bQ9}(h:laidMetH PG Rows.algebraicTextRow.laid w):Lib.TabIs PG w "internal/strconv.uint64pow10" .u64 (aGu.map fun n=>((n:Nat):Int)):=by
 rw[MakeChecks.laidMetH_plain _ _ _ (by kernel_rfl)]at h
 obtain⟨N,h0, -⟩:=h
 obtain⟨O,h1⟩:=aNl h0
 obtain⟨Q,h2⟩:=aNl h1
 exact aUU (t:=265) (e:=103) (n:=20) (g:=3) (by kernel_rfl) (by kernel_rfl) (by kernel_rfl) (by kernel_rfl) (by kernel_rfl) (by kernel_rfl) h2
theorem bDQ{W:bQ9}(hs:W.ShapedOpen PG)(J:laidMetH PG Rows.algebraicTextRow.laid W):fX W:=by
 obtain⟨m,E⟩:=Go.Proofs.cell_of_shapedOpen_int (P:=PG) (g:=0) (t:=3) (zero:= #[.int .i64 0]) (k:= .i64) hs (of_decide_eq_true (by kernel_rfl)) (by kernel_rfl) rfl (by kernel_rfl) (by kernel_rfl) (by kernel_rfl)
 obtain⟨-,c0,el0,fr0,b⟩:=aLG E
 have b:W.heap[0]? =some (.cells c0 el0 fr0):=b
 have a:c0[0]? =some (.int .i64 m):=by rw[←E,uU b]
 have f:W.var? PG "internal/strconv.uint64pow10" =some ((aGu.map fun n=>((n:Nat):Int)).map fun z=>Value.int .u64 z).toArray:=bAD J
 obtain⟨c3,el3,fr3,o,r⟩:∃c3 el3 fr3,W.heap[3]? =some (.cells c3 el3 fr3)/\c3.toList=aGu.map fun n=>Value.int .u64 ((n:Nat):Int):=by
  unfold World.var? at f
  rw[show PG.globalNamed "internal/strconv.uint64pow10" =some 3 by kernel_rfl]at f
  simp only[Option.bind_some]at f
  split at f
  ·next c el fr K=>
   cases f
   exact⟨_,el,fr,K,by rw[List.toList_toArray,bKj];rfl⟩
  ·cases f
 have D:0<c0.size:=(Array.getElem?_eq_some_iff.1 a).1
 have s:c3.size=20:=by rw[←bKM,r];rfl
 refine⟨fun g=>if g=0 then c0.size else 20,fun q hq=> ?_⟩
 unfold nD at hq
 simp only[bJ4,bKf,or_false]at hq
 rcases hq with rfl|rfl
 ·refine⟨aIZ b,.of (el:=el0) (cs:=c0) (by rw[b];rfl) rfl D ?_ (fun h=>by cases h)⟩
  have:c0.toList.take 1=[.int .i64 m]:=by
   rw[←Array.getElem?_toList]at a
   cases u:c0.toList with
   |nil=>rw[u]at a;cases a
   |cons x l=>rw[u]at a;simp at a;subst a;rfl
  show bU _ [AV.fn (.yield 1) [] []] (c0.toList.take 1)
  rw[this]
  exact .cons (.anyI m) .nil
 ·refine⟨aIZ o,.of (el:=el3) (cs:=c3) (by rw[o];rfl) s (bIK 20) ?_ (fun _=>rfl)⟩
  rw[List.take_of_length_le (by rw[bKM,s];exact bIK 20),r]
  exact aLz aGu
end
section
def aEb(f:Nat):Nat->Option (List Nat):=Nat.rec (fun n=>Bool.rec none (some []) (Nat.beq n 0)) (fun _ ih n=>Bool.rec ((ih (n/4294967296)).map (n%4294967296:: ·)) (some []) (Nat.beq n 0)) f
theorem aFl:∀(f n:Nat) (l:List Nat),aEb f n=some l->l=aO n
 |0,n,l,h=>by
  have h':(Bool.rec (motive:=fun _=>Option (List Nat)) none (some []) (Nat.beq n 0))=some l:=h
  cases k:Nat.beq n 0 with
  |true=>rw[k]at h';cases h';rw[bJ0 k,gW]
  |false=>rw[k]at h';cases h'
 | f+1,n,l,h=>by
  have h':(Bool.rec (motive:=fun _=>Option (List Nat)) ((aEb f (n/4294967296)).map (n%4294967296:: ·)) (some []) (Nat.beq n 0))=some l:=h
  cases k:Nat.beq n 0 with
  |true=>rw[k]at h';cases h';rw[bJ0 k,gW]
  |false=>
   rw[k]at h'
   simp only[bIM]at h'
   obtain⟨m,h1,rfl⟩:=h'
   rw[aFl f _ m h1]
   conv=>rhs;rw[aO]
   rw[dif_neg (Nat.ne_of_beq_eq_false k)]
def wE(z:Int):Option TV:=(aEb 400 z.natAbs).map fun l=> .ag (ci (decide (z<0)) l)
theorem aAe{z:Int}{t:TV}(h:wE z=some t):t=tI z:=by
 simp only[wE,bIM]at h
 obtain⟨l,h1,rfl⟩:=h
 rw[aFl _ _ _ h1];rfl
def wD(q:Rat):Option TV:=(aEb 400 q.num.natAbs).bind fun a=>(aEb 400 q.den).map fun b=> .ag [.b (decide (q.num<0)),tW a,.b false,tW b]
theorem aAq{q:Rat}{t:TV}(h:wD q=some t):t=tR q:=by
 simp only[wD,bIL,bIM]at h
 obtain⟨a,h1,b,h2,rfl⟩:=h
 rw[aFl _ _ _ h1,aFl _ _ _ h2]
 have:decide ((q.den:Int)<0)=false:=decide_eq_false (by omega)
 unfold tR cR
 rw[this];rfl
def aDu:TV->Option (List Nat)
 | .em=>some []
 | .im 1 (c::cs)=>rO (.im 1 (c::cs))
 |_=>none
theorem aHq{t:TV}{xs:List Nat}(h:aDu t=some xs):bC xs/\t=tW xs:=by
 unfold aDu at h
 split at h
 ·cases h;exact⟨fun _ h=>absurd h bKf,rfl⟩
 ·obtain⟨h1,⟨h2,_⟩|h2⟩:=aEt h
  ·cases h2
  ·refine⟨h1, ?_⟩
   cases xs with
   |nil=>cases h2
   |cons x xs=>exact h2
 ·cases h
def aDV:TV->Option Int
 | .ag [.b s,t]=>(aDu t).bind fun xs=>if dW (s,xs)=true/\xs.length<=100 then some (bZ (s,xs))else none
 |_=>none
theorem aJr{xs:List Nat}(o:bC xs)(h:xs.length<=100):aX 100 (val xs):=bIP (iY o) (bJ9 (by decide) h)
theorem aIW{t:TV}{z:Int}(h:aDV t=some z):t=tI z/\aX 100 z.natAbs:=by
 unfold aDV at h
 split at h
 ·next s t=>
  simp only[bIL]at h
  obtain⟨xs,h1,h2⟩:=h
  split at h2
  ·next r=>
   cases h2
   obtain⟨o,rfl⟩:=aHq h1
   exact⟨rM o r.1,by rw[oY];exact aJr o r.2⟩
  ·cases h2
 ·cases h
def aAQ:TV->Option Rat
 | .ag [.b s,t,.b u,v]=>(aDu t).bind fun xs=>(aDu v).bind fun ys=>
  if h:(dW (s,xs)=true/\dW (false,ys)=true/\u=false/\xs.length<=100/\ys.length<=100)/\val ys≠0/\Nat.gcd (bZ (s,xs)).natAbs (val ys)=1 then some ⟨bZ (s,xs),val ys,h.2.1,h.2.2⟩else none
 |_=>none
theorem aDc{t:TV}{q:Rat}(h:aAQ t=some q):t=tR q/\FR 100 q:=by
 unfold aAQ at h
 split at h
 ·next s t u v=>
  simp only[bIL]at h
  obtain⟨xs,h1,ys,h2,w⟩:=h
  split at w
  ·next r=>
   cases w
   obtain⟨o,rfl⟩:=aHq h1
   obtain⟨y,rfl⟩:=aHq h2
   obtain⟨⟨g1,g2,rfl,g4,B⟩,H,I⟩:=r
   refine⟨?_,by show aX 100 (bZ (s,xs)).natAbs;rw[oY];exact aJr o g4,aJr y B⟩
   have g:=rM (x:=(s,xs)) o g1
   have i:=rM (x:=(false,ys)) y g2
   injection g with g
   injection i with i
   have E:bZ (false,ys)=(val ys:Int):=rfl
   rw[E]at i
   show TV.ag (ci s xs++ci false ys)=TV.ag (ci _ _++ci _ _)
   have g:ci s xs=ci (decide (bZ (s,xs)<0)) (aO (bZ (s,xs)).natAbs):=g
   have i:ci false ys=ci (decide ((val ys:Int)<0)) (aO (val ys:Int).natAbs):=i
   rw[g,i]
  ·cases w
 ·cases h
def xS:List TV->Option (List Rat)
 | []=>some []
 |a::b::c::d::l=>(aAQ (.ag [a,b,c,d])).bind fun q=>(xS l).map (q:: ·)
 |_=>none
theorem aNe:∀(l:List TV) (qs:List Rat),xS l=some qs->l=bP.row qs/\∀q∈qs,FR 100 q
 | [],_,h=>by simp only[xS]at h;cases h;exact⟨rfl,fun _ h=>by cases h⟩
 | a::b::c::d::l,_,h=>by
  simp only[xS,bIL,bIM]at h
  obtain⟨q,h1,qs,h2,rfl⟩:=h
  obtain⟨g,f1⟩:=aDc h1
  obtain⟨i,f2⟩:=aNe l qs h2
  injection g with g
  refine⟨?_,fun x hx=> ?_⟩
  ·rw[EC.row_cons,←i]
   show _=cR q++l
   rw[←g];rfl
  ·rcases bJ4.1 hx with rfl|hx
   ·exact f1
   ·exact f2 x hx
 | [_],_,h=>by simp [xS]at h
 | [_,_],_,h=>by simp [xS]at h
 | [_,_,_],_,h=>by simp [xS]at h
def aKp:TV->Option (List Rat)
 | .em=>some []
 | .im 4 (c::cs)=>xS (c::cs)
 |_=>none
theorem bCQ{t:TV}{l:List Rat}(h:aKp t=some l):t=tP l/\∀q∈l,FR 100 q:=by
 unfold aKp at h
 split at h
 ·cases h;exact⟨rfl,fun _ h=>by cases h⟩
 ·next c cs=>
  obtain⟨e,f⟩:=aNe _ _ h
  refine⟨?_,f⟩
  show _=tL 4 (bP.row l)
  rw[←e];rfl
 ·cases h
def aDL:List TV->Option (List (List Rat))
 | []=>some []
 |a::l=>(aKp a).bind fun p=>(aDL l).map (p:: ·)
theorem aOL:∀(l:List TV) (C:List (List Rat)),aDL l=some C->l=iU.row C/\∀p∈C,∀q∈p,FR 100 q
 | [],_,h=>by simp only[aDL]at h;cases h;exact⟨rfl,fun _ h=>by cases h⟩
 | a::l,_,h=>by
  simp only[aDL,bIL,bIM]at h
  obtain⟨p,h1,C,h2,rfl⟩:=h
  obtain⟨g,f1⟩:=bCQ h1
  obtain⟨i,f2⟩:=aOL l C h2
  refine⟨?_,fun x hx=> ?_⟩
  ·rw[EC.row_cons,←i,g];rfl
  ·rcases bJ4.1 hx with rfl|hx
   ·exact f1
   ·exact f2 x hx
def aKr:TV->Option (List (List Rat))
 | .em=>some []
 | .im 1 (c::cs)=>aDL (c::cs)
 |_=>none
theorem bDG{t:TV}{C:List (List Rat)}(h:aKr t=some C):t=tC C/\∀p∈C,∀q∈p,FR 100 q:=by
 unfold aKr at h
 split at h
 ·cases h;exact⟨rfl,fun _ h=>by cases h⟩
 ·next c cs=>
  obtain⟨e,f⟩:=aOL _ _ h
  refine⟨?_,f⟩
  show _=tL 1 (iU.row C)
  rw[←e];rfl
 ·cases h
theorem aT3{j:Nat}:∀(l:List Rat),(∀q∈l,q.den<2^j/\q.num.natAbs<2^j)->WD (j*(l.length+1)+1) l
 | [],_=>⟨1,by decide,Nat.one_lt_two_pow (by omega),fun _ h=>by cases h⟩
 | q::l,h=>by
  obtain⟨D,d1,d2,d3⟩:=aT3 l fun x hx=>h x (.tail _ hx)
  obtain⟨A,F⟩:=h q (.head _)
  have G:2^(j*((q::l).length+1)+1)=2^(j*(l.length+1)+1)*2^j:=by rw[←Nat.pow_add];congr 1;rw[List.length_cons,Nat.mul_succ];omega
  rw[WD,G]
  refine⟨D*q.den,Nat.mul_pos d1 q.den_pos,bKL d2 A,fun x hx=> ?_⟩
  rcases bJ4.1 hx with rfl|hx
  ·refine⟨x.num*D, ?_,by rw[bJJ,Int.natAbs_natCast,Nat.mul_comm];exact bKL d2 F⟩
   have h1:=aBw x
   simp only[Rat.natCast_mul,Rat.intCast_mul,Rat.intCast_natCast,←h1]
   grind
  ·obtain⟨n,g,i⟩:=d3 x hx
   refine⟨n*q.den, ?_,by rw[bJJ,Int.natAbs_natCast];exact bKL i A⟩
   simp only[Rat.natCast_mul,Rat.intCast_mul,Rat.intCast_natCast,←g]
   grind
end
section
variable {m:Nat}
theorem bFW(z:Int):tX (decide (z<0),aO z.natAbs)=tI z:=rfl
theorem aZl(z:Int):dW (decide (z<0),aO z.natAbs)=true:=by
 simp only[dW,bIN,Bool.or_eq_true,decide_eq_true_eq,kH,true_and]
 by_cases h:z<0
 ·right
  have:=mt sE.1 (show z.natAbs≠0 by omega)
  exact List.length_pos_iff.2 this
 ·left;rw[decide_eq_false h];rfl
theorem aP2{z:Int}(h:aX 9000000 z.natAbs):CC (VX (m+1)) 84 [tI z] (.b true):=by
 have:=aPj (m:=m) (x:=(decide (z<0),aO z.natAbs)) (by have:=h.len;show(aO z.natAbs).length<_;omega)
 rw[aZl,bFW]at this
 exact this
theorem bCV:bQ PG 125 f125 [2] []=true:=by kernel_rfl
theorem aZc{q:Rat}(h:FR 9000 q):VX (m+8) 125 [tR q]=some (.b true,false):=by
 have h1:=aP2 (m:=m+6) (z:=q.num) (h.1.mono (by decide))
 have h2:=aP2 (m:=m+6) (z:=(q.den:Int)) (h.2.mono (by decide))
 have a:=aBE (m:=m+6) (z:=(q.den:Int)) (h.2.mono (by decide))
 have b:=aJI (m:=m+1) (z:=q.num) (w:=(q.den:Int)) (h.1.mono (by decide)) (h.2.mono (by decide))
 have c:=aBv (m:=m+6) (z:=((1:Nat):Int))
 rw[show(q.den:Int).sign=((1:Nat):Int)from Int.sign_eq_one_of_pos (by have:=q.den_pos;omega)]at a
 rw[show Int.gcd q.num (q.den:Int)=1 from q.reduced]at b
 rw[show decide (((1:Nat):Int)=1)=true from rfl]at c
 refine bY rfl func125 bCV rfl ?_
 simp only[f125,N1,bD,bJ,bM,bL,bH,zB,zG]
 simp (disch:=first|rfl|omega)only[S1,aC,aE,aM,aJ,zB,reduceCtorEq,zD,zG,zH,TQ,aT,vJ 84 rfl,h1 _,h2 _,vJ 85 rfl,a _,vJ 87 rfl,b _,vJ 206 rfl,c _,aFp,show decide ((0:Int)<((1:Nat):Int))=true from rfl]
end
section
open Go Go.RowKit
theorem dF.ownW{Γ:aP}{st:St}{w w':bQ9}(h:dL st Γ w)(hx:Below w.heap.size w w'){b:cH}{g:Nat}{cs:Array Value}{el:TypeId}(hg:w.heap.size<=g)(S:w'.heap[g]? =some (.cells cs el (0,0)))(hc:bU Γ b.cells (cs.toList.take b.cells.length))(E:b.cells.length<=cs.size)(he:b.exact=true->cs.size=b.cells.length):
  dF st Γ w (st.new b) (Γ.add st.nxt g cs.size) w':=by
 have hn:Γ st.nxt=none:=h.fresh _ (bIK _)
 have z:aP.le Γ (Γ.add st.nxt g cs.size):=aP.add_le hn _ _
 have g':g<w'.heap.size:=by
  rcases Nat.lt_or_ge g w'.heap.size with h1|h1
  ·exact h1
  ·rw[Array.getElem?_eq_none h1]at S;cases S
 have C:(st.new b).nxt.nat=st.nxt.nat+1:=Id.nat_succ _
 refine⟨⟨?_, ?_, ?_, ?_,h.glob.mono z,h.flo⟩,z,rfl,fun id G=>aP.add_ne _ (fun e=>by rw[e]at G;omega) _ _,hx.os,hx.tape,hx.output,hx.size,rfl,rfl,by rw[C];omega, ?_, ?_, ?_⟩
 ·intro id c H
  by_cases e:id=st.nxt
  ·subst e
   obtain rfl:=St.new_look_self H
   exact⟨g,cs.size,aP.add_self _ _ _ _,g',.thw (.of S rfl E (hc.mono z) he)⟩
  ·obtain⟨p,s,t,D,T⟩:=h.blk id c (St.new_look H e)
   exact⟨p,s,z _ _ t,bIP D hx.size,by rw[hx.block p D];exact T.mono z⟩
 ·intro id O c c' p s s' H Q h' t B
  by_cases e:id=st.nxt
  ·by_cases U:O=st.nxt
   ·rw[e,U]
   ·subst e
    rw[aP.add_self]at t;injection t with t;injection t with i' i
    rw[aP.add_ne _ U]at B
    obtain⟨Y,s2,i,D,_⟩:=h.blk O c' (St.new_look Q U)
    rw[B]at i;injection i with i;injection i with i _;omega
  ·rw[aP.add_ne _ e]at t
   by_cases U:O=st.nxt
   ·subst U
    rw[aP.add_self]at B;injection B with B;injection B with i' i
    obtain⟨Y,s2,i,D,_⟩:=h.blk id c (St.new_look H e)
    rw[t]at i;injection i with i;injection i with i _;omega
   ·rw[aP.add_ne _ U]at B
    exact h.inj id O c c' p s s' (St.new_look H e) (St.new_look Q U) h' t B
 ·intro id G
  rw[C]at G
  have:id≠st.nxt:=fun e=>by rw[e]at G;omega
  rw[aP.add_ne _ this];exact h.fresh id (by omega)
 ·intro id G
  rw[C]at G
  exact(Tr.put_other _ _ _ _ (fun e=>by rw[←e]at G;omega)).trans (h.top id (by omega))
 ·intro q hq _
  exact hx.block q hq
 ·intro q id c s hq H hr t
  by_cases e:id=st.nxt
  ·subst e;rw[aP.add_self]at t;injection t with t;injection t with t _;omega
  ·rw[aP.add_ne _ e]at t;exact⟨id,c,s,St.new_look H e,hr,t⟩
 ·intro id G _
  exact Tr.put_other _ _ _ _ (fun e=>by rw[←e]at G;omega)
def aCl(sz:Nat)(st:St)(a:AV):Option (List AV):=match a with
 | .sl id off len _ I=>match Tr.find id st.heap with
  |some b=>if (Nat.beq I sz&&aB0 st id&& !mP b.cells&&Nat.ble (off+len*sz) b.cells.length&&Nat.ble 1 len&&Nat.ble len 1000000)=true then some ((b.cells.drop off).take (len*sz))else none
  |none=>none
 |_=>none
def aAW(sz:Nat):List AV->St->KS->OR:=fun args st k=>match args with
 | [a]=>match aCl 1 st a with
  | some [x,y]=>match aCl sz st x with
   |some c=>match aCl sz st y with
    |some d=>if (jC c&&jC d)=true then k (.sl st.nxt 0 ((c.length+d.length)/sz) none sz) (st.new ⟨c++d,false⟩)else none
    |none=>none
   |none=>none
  |_=>none
 |_=>none
structure aGx(w:bQ9)(sz:Nat)(A:Addr)(n c:Nat)(xs:List Value):Prop where
 pos:0<n
 cap:n<=c
 lim:n<=1000000
 len:xs.length=n*sz
 cells:∀j u,xs[j]? =some u->w.cell? (A.add j)=some u
 lt:A.block<w.heap.size
def aTY(P:bQe)(f:bQf)(sz:Nat):Prop:=∀(w:bQ9) (p0 o0 p1 o1 Y o2 c0 n m c d:Nat) (xs ys:List Value),aGx w 1 ⟨p0,o0,none⟩ 2 c0 [.slice (some ⟨p1,o1,none⟩) n c,.slice (some ⟨Y,o2,none⟩) m d]->aGx w sz ⟨p1,o1,none⟩ n c xs->aGx w sz ⟨Y,o2,none⟩ m d ys->
 (∀u∈xs,u.oneCell'=true)->(∀u∈ys,u.oneCell'=true)->
 Calls P f #[.slice (some ⟨p0,o0,none⟩) 2 c0] w fun e w'=>Below w.heap.size w w'/\∃g cap cs el,w.heap.size<=g/\w'.heap[g]? =some (.cells cs el (0,0))/\cs.toList.take ((n+m)*sz)=xs++ys/\n+m<=cap/\cap*sz=cs.size/\e= .returned (.slice (some ⟨g,0,none⟩) (n+m) cap)
theorem aHL{sz:Nat}{st:St}{Γ:aP}{w:bQ9}(hs:dL st Γ w){a:AV}{v:Value}{l:List AV}(h:aCl sz st a=some l)(q:CR Γ a v):∃p o n c xs,v= .slice (some ⟨p,o,none⟩) n c/\aGx w sz ⟨p,o,none⟩ n c xs/\bU Γ l xs:=by
 unfold aCl at h
 split at h
 ·next id off len cap I=>
  cases q with
  | sl hΓ j' J hsz=>
   rename_i p s c
   split at h
   ·next b T=>
    split at h
    ·next hc=>
     simp only[bIN,Bool.not_eq_true']at hc
     obtain⟨⟨⟨⟨⟨c0,c1⟩,c2⟩,c3⟩,c4⟩,c5⟩:=hc
     obtain rfl:=bJ0 c0
     cases h
     obtain⟨p',s',g1,g2,cs,el,g3,rfl,g5,g6,_⟩:=hs.blkc id b ⟨⟨aBs.1 c1,T⟩,c2⟩
     rw[hΓ]at g1
     cases g1
     have z:=bIU c3
     have g7:=(g6.drop off).take (len*I)
     have e:((cs.toList.take b.cells.length).drop off).take (len*I)=(cs.toList.drop off).take (len*I):=by
      rw[List.drop_take,List.take_take,Nat.min_eq_left (by omega)]
     rw[e]at g7
     refine⟨_,_,_,_,_,rfl,⟨bIU c4,j',bIU c5, ?_,fun j u hj=> ?_,g2⟩,g7⟩
     ·rw[bIW,bJj,bKM];omega
     ·rw[nB,uU g3]
      rw[List.getElem?_take]at hj
      split at hj
      ·rw[List.getElem?_drop]at hj
       simpa using hj
      ·cases hj
    ·cases h
   ·cases h
 ·cases h
theorem bCu{P:bQe}{f:bQf}{sz:Nat}(Z:0<sz)(h:aTY P f sz):aAD P f (aAW sz):=fun {args st k r Γ w vs} q hs hc=>by
 unfold aAW at q
 split at q
 ·next a=>
  obtain⟨va,rfl,k'⟩:=hc.inv1
  split at q
  ·next x y hr=>
   obtain⟨p0,o0,n0,c0,xs0,rfl,r1,m'⟩:=aHL hs hr k'
   obtain⟨vx,vy,rfl,hx,hy⟩:=m'.inv2
   split at q
   ·next c n'=>
    split at q
    ·next d o'=>
     split at q
     ·next S=>
      rw[bIN]at S
      obtain⟨p1,o1,n,cA,xs,rfl,r2,V⟩:=aHL hs n' hx
      obtain⟨Y,o2,m,cB,ys,rfl,r3,W⟩:=aHL hs o' hy
      have q':n0=2:=by have:=r1.len;simp at this;omega
      subst q'
      intro K hK
      refine Calls.mono (h w p0 o0 p1 o1 Y o2 c0 n m cA cB xs ys r1 r2 r3 (aCF V S.1) (aCF W S.2)) ?_
      rintro e w' ⟨T,g,cap,cs,el,hg,hw,r',J,hsz,rfl⟩
      have R:c.length=n*sz:=V.length.trans r2.len
      have a':d.length=m*sz:=W.length.trans r3.len
      have b':(c++d).length=(n+m)*sz:=by rw[bJ3,R,a',Nat.add_mul]
      have z:(n+m)*sz<=cs.size:=by rw[←hsz];exact Nat.mul_le_mul_right _ J
      have t':=dF.ownW hs T (b:=⟨c++d,false⟩) hg hw (by rw[b',r'];exact V.app W) (by show(c++d).length<=_;rw[b'];exact z) (fun e=>by cases e)
      refine hK _ _ _ _ _ q t' ?_
      have e1:(c.length+d.length)/sz=n+m:=by rw[R,a',←Nat.add_mul,Nat.mul_div_cancel _ Z]
      rw[e1]
      exact .sl (p:=g) (s:=cs.size) (aP.add_self _ _ _ _) J (fun k hk=>by cases hk) (by omega)
     ·cases q
    ·cases q
   ·cases q
  ·cases q
 ·cases q
theorem aHZ{sz:Nat}{st:St}{F:Id->Prop}(hv:∀id,F id->st.vis id)(Z:0<sz){a:AV}{cs:List TV}(q:TR st.heap eG eJ F a (.im sz cs))(h0:0<cs.length)(h1:cs.length<=1000000):∃l,aCl sz st a=some l/\bO st.heap eG eJ F l cs:=by
 cases q with
 |imv=>cases h0
 |imse=>cases h0
 | im hF hf H hc=>
  rename_i id off len cap blk
  have E:=hc.length
  rw[bIW,bJj]at E
  have t:1<=len:=by
   cases len with
   |zero=>omega
   |succ n=>omega
  have hm:len*1<=len*sz:=bJ7 _ Z
  refine⟨(blk.cells.drop off).take (len*sz), ?_,hc⟩
  show(match Tr.find id st.heap with
   |some b=>if (Nat.beq sz sz&&aB0 st id&& !mP b.cells&&Nat.ble (off+len*sz) b.cells.length&&Nat.ble 1 len&&Nat.ble len 1000000)=true then some ((b.cells.drop off).take (len*sz))else none
   |none=>none)=_
  rw[hf.hf]
  simp only
  rw[if_pos (by rw[aBs.2 (hv _ hF),hf.nm,bK0 H,bK0 t,bK0 (show len<=1000000 by omega),Nat.beq_refl];rfl)]
theorem aYZ{P:bQe}{pr:cM}{f:bQf}{sz:Nat}(Z:0<sz)(t:pr f=some (aAW sz)){c d:List TV}(hc:0<c.length)(hd:0<d.length)(u':c.length%sz=0)(v':d.length%sz=0)(x':c.length<=1000000)(y':d.length<=1000000)(z':iI c=true)(a0:iI d=true):
  jT P pr f [.im 1 [.im sz c,.im sz d]] (.im sz (c++d)) false:=by
 intro st aS F X hT D L a6 a4 a5
 cases hT with
 |cons ha a2=>
 rename_i a as'
 cases a2
 obtain⟨l,r1,H⟩:=aHZ L (by omega) ha (by simp) (by simp)
 cases H with
 |cons hx Q=>
 rename_i x l'
 cases Q with
 |cons hy d'=>
 rename_i y l''
 cases d'
 obtain⟨cc,r2,M⟩:=aHZ L Z hx hc x'
 obtain⟨dd,r3,N⟩:=aHZ L Z hy hd y'
 have T:dR (c++d)=true:=by
  simp only[pF,oG,cI,dR,bIN,Bool.and_true]at X
  rw[aHm,X.1,X.2];rfl
 have R:(cc++dd).length=c.length+d.length:=by rw[bJ3,M.length,N.length]
 have a3:Sb st.heap eG eJ F (st.new ⟨cc++dd,false⟩).heap eG eJ (fun id=>F id\/id=st.nxt):=⟨fun id hF=>uR st _ (D id hF),fun _ h=> .inl h,fun _ h=>h,fun _ _=>rfl⟩
 have f':(c.length+d.length)/sz*sz=c.length+d.length:=Nat.div_mul_cancel (Nat.dvd_of_mod_eq_zero (by rw[Nat.add_mod,u',v'];simp))
 refine⟨.sl st.nxt 0 ((cc.length+dd.length)/sz) none sz,st.new ⟨cc++dd,false⟩,fun id=>F id\/id=st.nxt,⟨?_, ?_,fun _ h=> .inl h,fun id h=>h.imp (fun h=>h) fun e=> ?_,fun id G=>uR st _ G,rfl,rfl, ?_,fun h=>by cases h⟩,0,fun n _ k=> ?_⟩
 ·rw[M.length,N.length]
  refine .im (blk:=⟨cc++dd,false⟩) (.inr rfl) ⟨Tr.put_same _ _ _,(M.app N).nm⟩ (by show _<=(cc++dd).length;omega) ?_
  rw[f',←R]
  simp only[List.drop_zero,List.take_length]
  exact bO.mono a3 (M.app N)
 ·simpa only[cI]using T
 ·rw[e];exact⟨bIK _,by rw[mB];exact bIZ _⟩
 ·rw[mB];exact Nat.le_succ _
 show(Option.rec (motive:=fun _=>IH->List AV->St->KS->OR) (wS P (P.funcs[f]?)) (fun p _=>p) (pr f)) _ [a] st k=_
 rw[t]
 show aAW sz [a] st k=_
 unfold aAW
 simp only[r1,r2,r3]
 rw[if_pos (by rw[uO M z',uO N a0];rfl)]
end
end Go.Proofs.YtmjoaipkaddkbaaGreatDoor.Ev
namespace Go.Proofs.YtmjoaipkaddkbaaGreatDoor
section
open Go Go.RowKit
theorem bEe:(prog.info? 78).map (fun i=>(i.zero,i.size,i.bytes))=some (some (.agg #[.bool false,.slice none 0 0,.bool false,.slice none 0 0]),4,64):=by kernel_rfl
theorem aNX:∃i,prog.info? 78=some i/\i.zero=some (.agg #[.bool false,.slice none 0 0,.bool false,.slice none 0 0])/\i.size=4/\i.bytes=64:=by
 have h:=bEe
 cases hi:prog.info? 78 with
 |none=>rw[hi]at h;cases h
 |some i=>
  rw[hi]at h
  simp only[Option.map_some,Option.some.injEq,Prod.mk.injEq]at h
  exact⟨i,rfl,h.1,h.2.1,h.2.2⟩
set_option maxHeartbeats 2000000 in
theorem bA1{n:Nat}(h0:0<n)(hn:n<=2000000){w:bQ9}:Calls prog 296 #[.slice none 0 0,.int .i64 (n:Int)] w fun e w'=>
  ∃cap cQ,e= .returned (.slice (some ⟨w.heap.size,0,none⟩) 0 cap)/\w'=w.drew.alloc (.cells cQ 78)/\cap<=maxLen/\cQ.size=cap*4:=by
 obtain⟨i,hi,hz,hs,hb⟩:=aNX
 have hr:∀ty,(Builtin.append_ #[35,3] ty #[.slice none 0 0,.int .i64 (n:Int)]).run prog w=_:=fun ty=>Lib.run_append_nil_zeros w 35 3 ty 78 i _ .i64 .i64 underlying35 underlying3 hi hz n h0 (by omega) (by omega) (by rw[hb];omega)
 have hGn:n<=grownCap w n 0 78:=grownCap_ge w _ _ _
 have hG63:=grownCap_le_maxLen w n 0 78 (by unfold maxLen;omega)
 generalize hG:grownCap w n 0 78=G at*
 have hsize:(Builtin.zeroCells (Value.agg #[.bool false,.slice none 0 0,.bool false,.slice none 0 0]).cells n++Builtin.zeroCells (Value.agg #[.bool false,.slice none 0 0,.bool false,.slice none 0 0]).cells (G-n)).size=G*4:=by
  rw[Array.size_append,size_zeroCells,size_zeroCells]
  show n*4+(G-n)*4=G*4
  omega
 generalize (Builtin.zeroCells (Value.agg #[.bool false,.slice none 0 0,.bool false,.slice none 0 0]).cells n++Builtin.zeroCells (Value.agg #[.bool false,.slice none 0 0,.bool false,.slice none 0 0]).cells (G-n))=cQ at*
 have HS:=Lib.hid hsize
 have HM:=Lib.hid hG63
 have hG63':G<=9223372036854775807:=by unfold maxLen at hG63;omega
 clear hsize hG63 hG hi hz hs hb
 go_enter func296,ntmps296
 go_wp2_with (at_builtin;refine Lib.wpList_append_run _ rfl _ _ _ _ rfl _ _ rfl rfl _ _ (hr _) ?_)
 go_ret
 exact⟨G,cQ,rfl,rfl,HM.out,HS.out⟩
def qW(n m:Nat):Nat->Nat
 |0=>0
 |1=>n
 |_=>n+m
def bId(xs ys:List Value):Nat->List Value
 |0=>[]
 |1=>xs
 |_=>xs++ys
set_option maxHeartbeats 4000000 in
theorem aVy{p0 o0 p1 o1 p2 o2 c0 n m c d:Nat}{xs ys:List Value}{w:bQ9}(hn:0<n)(hm:0<m)(hn1:n<=1000000)(hm1:m<=1000000)(_hc0:2<=c0)(_hnc:n<=c)(_hmd:m<=d)
  (h0:w.cell? ⟨p0,o0,none⟩=some (.slice (some ⟨p1,o1,none⟩) n c)) (h1:w.cell? ⟨p0,o0+1,none⟩=some (.slice (some ⟨p2,o2,none⟩) m d)) (l0:p0<w.heap.size) (l1:p1<w.heap.size) (l2:p2<w.heap.size)
  (hx:xs.length=n*4) (hy:ys.length=m*4) (hxc:∀j u,xs[j]? =some u->w.cell? (Addr.add ⟨p1,o1,none⟩ j)=some u) (hyc:∀j u,ys[j]? =some u->w.cell? (Addr.add ⟨p2,o2,none⟩ j)=some u) (hxo:∀u∈xs,u.oneCell'=true) (hyo:∀u∈ys,u.oneCell'=true):
  Calls prog 264 #[.slice (some ⟨p0,o0,none⟩) 2 c0] w fun e w'=>Below w.heap.size w w'/\∃g cap,e= .returned (.slice (some ⟨g,0,none⟩) (n+m) cap)/\w'.ownsRow w.heap.size 78 4 (.slice (some ⟨g,0,none⟩) (n+m) cap) (n+m) (xs++ys):=by
 obtain⟨i,hi,hz,hs,hb⟩:=aNX
 have HA1:=Lib.hid (fun(wr:bQ9) (g cap:Nat) (hbw:Below w.heap.size w wr) (ho:wr.ownsRow w.heap.size 78 4 (.slice (some ⟨g,0,none⟩) 0 cap) 0 [])=>
  run_append_lies (P:=prog) wr 35 35 w.heap.size 78 i _ 4 64 underlying35 hi hz hs hb rfl (by decide) _ 0 [] ho ⟨p1,o1,none⟩ n c xs hx (fun j u hj=>by
   have:=hxc j u hj
   rw[Addr.add_lit]at this ⊢
   exact(hbw.cell (p:=⟨p1,o1+j,none⟩) l1).trans this) hxo hn (by unfold maxLen;omega) (by omega) hbw.size wr.heap.size rfl)
 have HA2:=Lib.hid (fun(wr:bQ9) (g cap:Nat) (hbw:Below w.heap.size w wr) (ho:wr.ownsRow w.heap.size 78 4 (.slice (some ⟨g,0,none⟩) n cap) n xs)=>
  run_append_lies (P:=prog) wr 35 35 w.heap.size 78 i _ 4 64 underlying35 hi hz hs hb rfl (by decide) _ n xs ho ⟨p2,o2,none⟩ m d ys hy (fun j u hj=>by
   have:=hyc j u hj
   rw[Addr.add_lit]at this ⊢
   exact(hbw.cell (p:=⟨p2,o2+j,none⟩) l2).trans this) hyo hm (by unfold maxLen;omega) (by omega) hbw.size wr.heap.size rfl)
 have HG:=Lib.hid (bA1 (n:=n+m) (by omega) (by omega) (w:=w))
 clear hi hz hs hb hx hy hxc hyc hxo hyo
 go_enter func264,ntmps264
 go_wp2_with fail
 go_loopg [3,11] 2 (fun gk s i wr=>∃j:Nat,j+gk=2/\i= .int .i64 (j:Int)/\s= .int .i64 ((qW n m j:Nat):Int)/\wr=w)
 case atStart=>exact⟨0,rfl,rfl,rfl,rfl⟩
 case round=>
  obtain⟨j,hj,rfl,rfl,hwr⟩:=hrel
  have hwr':=hwr.symm
  clear hwr
  subst hwr'
  obtain rfl|rfl|rfl:j=0\/j=1\/j=2:=by omega
  ·simp only[qW]
   go_wp2_with fail
   go_roundg 1
   case measure=>omega
   case rel=>exact⟨1,rfl,rfl,by simp [qW],rfl⟩
  ·simp only[qW]
   go_wp2_with fail
   go_roundg 0
   case measure=>omega
   case rel=>exact⟨2,rfl,rfl,by simp [qW],rfl⟩
  ·simp only[qW]
   go_wp2_with fail
   refine HG.out.mono ?_
   rintro e w1 ⟨cap,cQ,rfl,hw1,hcm,hcs⟩
   have hb1:Below w.heap.size w w1:=by rw[hw1];exact(bE.drew w).palloc _
   have hown:w1.ownsRow w.heap.size 78 4 (.slice (some ⟨w.heap.size,0,none⟩) 0 cap) 0 []:=⟨rfl,.inr ⟨w.heap.size,cap,cQ,rfl,bIK _,by rw[hw1];exact Below.heap_new w.drew (.cells cQ 78),Nat.zero_le _,hcm,hcs,by simp⟩⟩
   have HB1:=Lib.hid hb1
   have HO:=Lib.hid hown
   clear hw1 hcm hcs hb1 hown HG
   go_wp2_with fail
   go_loopg [6,27] 2 (fun gk v i wr=>∃j:Nat,j+gk=2/\i= .int .i64 (j:Int)/\∃g cap,v= .slice (some ⟨g,0,none⟩) (qW n m j) cap/\Hid (Below w.heap.size w wr)/\Hid (wr.ownsRow w.heap.size 78 4 (.slice (some ⟨g,0,none⟩) (qW n m j) cap) (qW n m j) (bId xs ys j)))
   case atStart=>exact⟨0,rfl,rfl,w.heap.size,cap,rfl,HB1,HO⟩
   case round=>
    clear HB1 HO
    obtain⟨j,hj,rfl,g,cp,rfl,HB,HO⟩:=hrel
    have q0:=(HB.out.cell (p:=⟨p0,o0,none⟩) l0).trans h0
    have q1:=(HB.out.cell (p:=⟨p0,o0+1,none⟩) l0).trans h1
    obtain rfl|rfl|rfl:j=0\/j=1\/j=2:=by omega
    ·obtain⟨g',cp',w',hr,ho,hg,hat, -⟩:=HA1.out wr g cp HB.out HO.out
     have hb':Below w.heap.size w w':=aI6 hg HB.out (fun r hr=>by obtain⟨h1,_⟩:=HO.out.lt r hr;exact h1)
     have HB':=Lib.hid hb'
     have HO':=Lib.hid ho
     clear ho hg hat hb'
     simp only[qW,Nat.zero_add]at*
     go_wp2_with (at_builtin;refine Lib.wpList_append_run _ rfl _ _ _ _ rfl _ _ rfl rfl _ _ hr ?_)
     go_roundg 1
     case measure=>omega
     case rel=>exact⟨1,rfl,rfl,g',cp',rfl,HB',HO'⟩
    ·obtain⟨g',cp',w',hr,ho,hg,hat, -⟩:=HA2.out wr g cp HB.out HO.out
     have hb':Below w.heap.size w w':=aI6 hg HB.out (fun r hr=>by obtain⟨h1,_⟩:=HO.out.lt r hr;exact h1)
     have HB':=Lib.hid hb'
     have HO':=Lib.hid ho
     clear ho hg hat hb'
     simp only[qW]at*
     go_wp2_with (at_builtin;refine Lib.wpList_append_run _ rfl _ _ _ _ rfl _ _ rfl rfl _ _ hr ?_)
     go_roundg 0
     case measure=>omega
     case rel=>exact⟨2,rfl,rfl,g',cp',rfl,HB',HO'⟩
    ·simp only[qW]at*
     go_wp2_with fail
     go_ret
     exact⟨HB.out,g,cp,rfl,HO.out⟩
end
end Go.Proofs.YtmjoaipkaddkbaaGreatDoor
namespace Go.Proofs.YtmjoaipkaddkbaaGreatDoor.Ev
section
theorem xz{n:Nat}{f:bQf}{args:List TV}{r:TV×Bool}(h:VX n f args=some r):VZ n f args=some r:=yz _ _ _ _ (xy _ _ _ _ h)
structure CZ where
 f:bQf
 o:List TV->Option TV
 ok:∀args R,o args=some R->∃n,VZ n f args=some (R,false)
def o1Q(g:Rat->Option TV):List TV->Option TV
 | [a]=>(aAQ a).bind g
 |_=>none
def o2Q(g:Rat->Rat->Option TV):List TV->Option TV
 | [a,b]=>(aAQ a).bind fun x=>(aAQ b).bind (g x)
 |_=>none
def o1I(g:Int->Option TV):List TV->Option TV
 | [a]=>(aDV a).bind g
 |_=>none
def zP(g:Int->Int->Option TV):List TV->Option TV
 | [a,b]=>(aDV a).bind fun x=>(aDV b).bind (g x)
 |_=>none
def oZ(g:Int->Option TV):List TV->Option TV
 | [.int .i64 z]=>if-9223372036854775808<=z/\z<9223372036854775808 then g z else none
 |_=>none
section
variable {f:bQf}
theorem aK7{g:Rat->Option TV}(h:∀q R,FR 100 q->g q=some R->∃n,VZ n f [tR q]=some (R,false)):∀args R,o1Q g args=some R->∃n,VZ n f args=some (R,false):=fun args R e=>by
 unfold o1Q at e
 split at e
 ·simp only[bIL]at e
  obtain⟨q,j,v⟩:=e
  obtain⟨rfl,hf⟩:=aDc j
  exact h q R hf v
 ·cases e
theorem aDt{g:Rat->Rat->Option TV}(h:∀q r R,FR 100 q->FR 100 r->g q r=some R->∃n,VZ n f [tR q,tR r]=some (R,false)):∀args R,o2Q g args=some R->∃n,VZ n f args=some (R,false):=fun args R e=>by
 unfold o2Q at e
 split at e
 ·simp only[bIL]at e
  obtain⟨q,j,r,v,A⟩:=e
  obtain⟨rfl,hf⟩:=aDc j
  obtain⟨rfl,I⟩:=aDc v
  exact h q r R hf I A
 ·cases e
theorem bGf{g:Int->Option TV}(h:∀q R,aX 100 q.natAbs->g q=some R->∃n,VZ n f [tI q]=some (R,false)):∀args R,o1I g args=some R->∃n,VZ n f args=some (R,false):=fun args R e=>by
 unfold o1I at e
 split at e
 ·simp only[bIL]at e
  obtain⟨q,j,v⟩:=e
  obtain⟨rfl,hf⟩:=aIW j
  exact h q R hf v
 ·cases e
theorem aBZ{g:Int->Int->Option TV}(h:∀q r R,aX 100 q.natAbs->aX 100 r.natAbs->g q r=some R->∃n,VZ n f [tI q,tI r]=some (R,false)):∀args R,zP g args=some R->∃n,VZ n f args=some (R,false):=fun args R e=>by
 unfold zP at e
 split at e
 ·simp only[bIL]at e
  obtain⟨q,j,r,v,A⟩:=e
  obtain⟨rfl,hf⟩:=aIW j
  obtain⟨rfl,I⟩:=aIW v
  exact h q r R hf I A
 ·cases e
theorem aTp{g:Int->Option TV}(h:∀z R, -9223372036854775808<=z->z<9223372036854775808->g z=some R->∃n,VZ n f [.int .i64 z]=some (R,false)):∀args R,oZ g args=some R->∃n,VZ n f args=some (R,false):=fun args R e=>by
 unfold oZ at e
 split at e
 ·split at e
  ·next hh=>exact h _ R hh.1 hh.2 e
  ·cases e
 ·cases e
end
theorem FR.up{q:Rat}(h:FR 100 q){k:Nat}(K:100<=k):FR k q:=h.mono K
def bBQ:CZ:=⟨86,oZ wE,aTp fun z R h1 h2 e=>⟨0+3,by rw[aAe e];exact xz (aLF h1 h2)⟩⟩
def bIm:CZ:=⟨275,o1I fun z=>wE (-z),bGf fun z R h e=>⟨0+3,by rw[aAe e];exact xz (aS3 (h.mono (by decide)))⟩⟩
def bI9:CZ:=⟨136,zP fun z w=>wE (z*w),aBZ fun z w R h h' e=>⟨0+3,by rw[aAe e];exact xz (aRn (h.mono (by decide)) (h'.mono (by decide)))⟩⟩
def bIi:CZ:=⟨270,zP fun z w=>wE (z+w),aBZ fun z w R h h' e=>⟨0+4,by rw[aAe e];exact xz (aSW (h.mono (by decide)) (h'.mono (by decide)))⟩⟩
def bIs:CZ:=⟨88,zP fun z w=>some (.int .i64 (z-w).sign),aBZ fun z w R h h' e=>⟨0+4,by cases e;exact xz (aRJ (h.mono (by decide)) (h'.mono (by decide)))⟩⟩
def bIc:CZ:=⟨87,zP fun z w=>wE (Int.gcd z w:Nat),aBZ fun z w R h h' e=>⟨0+6,by rw[aAe e];exact xz (aRL (h.mono (by decide)) (h'.mono (by decide)))⟩⟩
def bC4:CZ:=⟨135,zP fun z w=>if w=0 then none else(wE (z.fdiv w)).bind fun a=>(wE (z.fmod w)).map fun b=> .tp [a,b,.int .i64 ((0:Nat):Int)],aBZ fun z w R h h' e=>⟨0+6,by
 split at e
 ·cases e
 ·next F=>
  simp only[bIL,bIM]at e
  obtain⟨a,h1,b,h2,rfl⟩:=e
  rw[aAe h1,aAe h2]
  exact xz (aND (h.mono (by decide)) (h'.mono (by decide)) F)⟩⟩
def bAR:CZ:=⟨43,oZ fun z=>wD (z:Rat),aTp fun z R h1 h2 e=>⟨0+5,by rw[aAq e];exact xz (aHx h1 h2)⟩⟩
def bH8:CZ:=⟨139,o1Q fun q=>some (.int .i64 (fW q)),aK7 fun q R h e=>⟨0+2,by cases e;exact xz (aPL (h.up (by decide)))⟩⟩
def bFV:CZ:=⟨125,o1Q fun _=>some (.b true),aK7 fun q R h e=>⟨0+8,by cases e;exact xz (aZc (h.up (by decide)))⟩⟩
def bIv:CZ:=⟨211,o1Q fun q=>wD (-q),aK7 fun q R h e=>⟨0+4,by rw[aAq e];exact xz (aS7 (h.up (by decide)))⟩⟩
def bIj:CZ:=⟨55,o2Q fun q r=>some (.int .i64 (fW (q-r))),aDt fun q r R h h' e=>⟨0+5,by cases e;exact xz (aSg (h.up (by decide)) (h'.up (by decide)))⟩⟩
def bIz:CZ:=⟨200,o2Q fun q r=>wD (q+r),aDt fun q r R h h' e=>⟨0+9,by rw[aAq e];exact xz (aJE (h.up (by decide)) (h'.up (by decide)))⟩⟩
def bIn:CZ:=⟨143,o2Q fun q r=>wD (q-r),aDt fun q r R h h' e=>⟨0+10,by rw[aAq e];exact xz (aRZ (h.up (by decide)) (h'.up (by decide)))⟩⟩
def bI5:CZ:=⟨142,o2Q fun q r=>wD (q*r),aDt fun q r R h h' e=>⟨0+9,by rw[aAq e];exact xz (aJT (h.up (by decide)) (h'.up (by decide)))⟩⟩
def bI2:CZ:=⟨202,o2Q fun q r=>if r=0 then none else(wD (q/r)).map fun a=> .tp [a,.int .i64 ((0:Nat):Int)],aDt fun q r R h h' e=>⟨0+9,by
 split at e
 ·cases e
 ·next F=>
  simp only[bIM]at e
  obtain⟨a,h1,rfl⟩:=e
  rw[aAq h1]
  exact xz (aSi (h.up (by decide)) (h'.up (by decide)) F)⟩⟩
def bHt:CZ:=⟨181,zP fun z w=>if w=0 then none else(wD (Rat.divInt z w)).map fun a=> .tp [a,.int .i64 ((0:Nat):Int)],aBZ fun z w R h h' e=>⟨0+9,by
 split at e
 ·cases e
 ·next F=>
  simp only[bIM]at e
  obtain⟨a,h1,rfl⟩:=e
  rw[aAq h1]
  exact xz (aPT (h.mono (by decide)) (h'.mono (by decide)) F)⟩⟩
theorem pw32(n:Nat):(4294967296:Nat)^n=2^(32*n):=by rw[show (4294967296:Nat)=2^32 from rfl,←Nat.pow_mul]
theorem aSE{q:Rat}(h:FR 100 q):q.den<2^3200/\q.num.natAbs<2^3200:=by
 obtain⟨h1,h2⟩:=h
 have e:=pw32 100
 rw[show 32*100=3200 from rfl]at e
 unfold aX at h1 h2
 rw[e]at h1 h2
 exact⟨h2,h1⟩
def aKA:List TV->Option TV
 | [a,b]=>(aKr a).bind fun C=>(aAQ b).bind fun x=>if C.length<=30/\C.all (fun p=>decide (p.length<=20))=true then some (.int .i64 (gK C x:Nat))else none
 |_=>none
theorem bGt{C:List (List Rat)}{x:Rat}(h:pG C x):VY 1 130 [tC C,tR x]=some (.int .i64 (gK C x:Nat),false):=by
 have i:qB 130 [tC C,tR x]=some (.int .i64 (gK C x:Nat),false):=aRG h
 show(match qB _ _ with |some r=>some r|none=>_)=_
 rw[i]
theorem bF3:∀args R,aKA args=some R->∃n,VZ n 130 args=some (R,false):=fun args R e=>by
 unfold aKA at e
 split at e
 ·simp only[bIL]at e
  obtain⟨C,j,x,v,A⟩:=e
  split at A
  ·next hc=>
   cases A
   obtain⟨rfl,hf⟩:=bDG j
   obtain⟨rfl,hx⟩:=aDc v
   refine⟨1,yz _ _ _ _ (bGt ⟨3200,by omega,fun p i=> ?_,aSE hx,by decide⟩)⟩
   have G:p.length<=20:=of_decide_eq_true (bJt.1 hc.2 p i)
   refine⟨(aT3 p fun q hq=>aSE (hf p i q hq)).mono ?_,by omega, ?_⟩
   ·have:=bJ7 3200 (show p.length+1<=21 by omega)
    omega
   ·have:=bJ7 3201 G
    omega
  ·cases A
 ·cases e
def bI8:CZ:=⟨130,aKA,bF3⟩
structure uI(pr:cM):Prop where
 pv:aCi PG pr qA
 u:pr 178=some (mJ vT)
 np:∀f,pr f≠none->cC.prim f=true
 cat:pr 264=some (aAW 4)
theorem uI.no{pr:cM}(h:uI pr){f:bQf}(hf:cC.prim f=false):pr f=none:=by
 cases i:pr f with
 |none=>rfl
 |some p=>have:=h.np f (by rw[i];exact fun h=>by cases h);rw[hf]at this;cases this
theorem aSk:∀f,cC f=true->cC.prim f=false:=fun f h=>by
 have:=bJP.1 (show aE4.elem f=true from h)
 simp only[aE4,bJ4,bKf,or_false]at this
 rcases this with rfl|rfl|rfl|rfl|rfl|rfl|rfl<;>rfl
def pr3:cM:=fun f=>bif Nat.beq f 264 then some (aAW 4)else rF f
theorem aK4{f:bQf}(h:f≠264):pr3 f=rF f:=by
 unfold pr3
 cases B:Nat.beq f 264 with
 |true=>exact absurd (bJ0 B) h
 |false=>rfl
theorem bGB:aTY PG 264 4:=fun w U V W X Y Z c0 n m c d xs ys H D E hx L=>
 Calls.mono (aVy D.pos E.pos D.lim E.lim H.cap D.cap E.cap (H.cells 0 _ rfl) (by have:=H.cells 1 _ rfl;rwa [nB]at this) H.lt D.lt E.lt D.len E.len D.cells E.cells hx L) (by
  rintro e w' ⟨B,g,cap,rfl,h1,h2⟩
  rcases h2 with ⟨h2, -⟩|⟨g',cap',cQ,h2,M,N,O,h6,P,S⟩
  ·cases h2
  ·cases h2
   exact⟨B,g,cap,cQ,_,M,N,S,O,P.symm,rfl⟩)
theorem bFo:lE PG pr3:=fun f p h=>by
 by_cases hf:f=264
 ·subst hf
  cases h
  exact⟨⟨_,(by kernel_rfl:PG.funcs[264]? =some f264),fun h=>by cases h⟩,bCu (by decide) bGB⟩
 ·rw[aK4 hf]at h;exact aRd f p h
theorem aKk:uI pr3:=⟨fun f vs R own h=>by
 unfold qA at h
 split at h
 ·next p i=>
  refine PT.callV ?_ h
  rw[aK4 (fun e=>by rw[e]at i;cases i)]
  unfold rF;rw[i]
 ·exact aQ6 (by kernel_rfl) (by kernel_rfl) (by kernel_rfl) (by kernel_rfl) f vs R own h,by kernel_rfl,fun f h=>by
 by_cases hf:f=264
 ·rw[hf];rfl
 ·rw[aK4 hf]at h;exact aR2 f h,rfl⟩
theorem aRW{pr:cM}(h:uI pr)(n:Nat):mK PG pr (VZ n):=aBO h.pv (fun _ h=>aDo h) (fun f hf=>h.no (aSk f hf)) h.np n
structure CE where
 f:bQf
 o:List TV->Option (TV×Bool)
 ok:∀pr,uI pr->∀args R own,o args=some (R,own)->jT PG pr f args R own
def CE.ofZ(c:CZ):CE:=⟨c.f,fun a=>(c.o a).map (·,false),fun pr h args R own e=>by
 rw[bIM]at e
 obtain⟨Q,h1,h2⟩:=e
 cases h2
 obtain⟨n,hn⟩:=c.ok args _ h1
 exact aRW h n _ _ _ _ hn⟩
def cT:List CE:=[.ofZ bI5,.ofZ bIz,.ofZ bH8,.ofZ bFV,.ofZ bAR,.ofZ bIv,.ofZ bIn,.ofZ bIj,.ofZ bI2,.ofZ bHt,.ofZ bBQ,.ofZ bIm,.ofZ bI9,.ofZ bIi,.ofZ bIs,.ofZ bIc,.ofZ bC4,.ofZ bI8]
def orE(f:bQf)(args:List TV)(last:Option (TV×Bool)):List CE->Option (TV×Bool)
 | []=>last
 |e::l=>bif Nat.beq f e.f then(match e.o args with |some r=>some r|none=>orE f args last l)else orE f args last l
theorem aK3{pr:cM}(h:uI pr){f:bQf}{args:List TV}{last:Option (TV×Bool)}{R:TV}{own:Bool}(G:last=some (R,own)->jT PG pr f args R own):∀ {l:List CE},orE f args last l=some (R,own)->jT PG pr f args R own
 | [],e=>G e
 | x::l,e=>by
  unfold orE at e
  cases B:Nat.beq f x.f with
  | true=>
   rw[B]at e
   simp only[cond_true]at e
   cases J:x.o args with
   |some r=>
    rw[J]at e
    cases e
    obtain rfl:=bJ0 B
    exact x.ok pr h args R own J
   |none=>rw[J]at e;exact aK3 h G e
  |false=>rw[B]at e;exact aK3 h G e
def pvT(T:List CE):cN:=fun f args=>orE f args (wO f args) T
theorem aRF{pr:cM}(h:uI pr)(T:List CE):aCi PG pr (pvT T):=fun f vs R own e=>
 aK3 h (fun e=>aJD h.u (h.no (by kernel_rfl)) (h.no (by kernel_rfl)) f vs R own e) e
mutual
def lH:TV->TV->Bool
 | .b x,.b y=>x==y
 | .int k x,.int l y=>decide (k=l)&&decide (x=y)
 | .em,.em=>true
 | .str x,.str y=>decide (x.data.toList=y.data.toList)
 | .im s l,.im t m=>Nat.beq s t&&yD l m
 | .ag l,.ag m=>yD l m
 |_,_=>false
def yD:List TV->List TV->Bool
 | [],[]=>true
 |a::l,b::m=>lH a b&&yD l m
 |_,_=>false
end
mutual
theorem aZn:∀ {a b:TV},lH a b=true->a=b
 | .b x,b,h=>by cases b<;>simp only[lH]at h<;>first|(cases h;done)|(rw[eq_of_beq h])
 | .int k x,b,h=>by cases b<;>simp only[lH]at h<;>first|(cases h;done)|(simp only[bIN,decide_eq_true_eq]at h;rw[h.1,h.2])
 | .em,b,h=>by cases b<;>simp only[lH]at h<;>first|(cases h;done)|rfl
 | .str x,b,h=>by
  cases b<;>simp only[lH]at h<;>first|(cases h;done)|skip
  rename_i y
  have:=of_decide_eq_true h
  obtain⟨⟨x⟩⟩:=x
  obtain⟨⟨y⟩⟩:=y
  cases this;rfl
 | .im s l,b,h=>by cases b<;>simp only[lH]at h<;>first|(cases h;done)|(simp only[bIN]at h;rw[bJ0 h.1,aFh h.2])
 | .ag l,b,h=>by cases b<;>simp only[lH]at h<;>first|(cases h;done)|(rw[aFh h])
 | .lit _,b,h=>by cases b<;>simp only[lH]at h<;>cases h
 | .u,b,h=>by cases b<;>simp only[lH]at h<;>cases h
 | .nil,b,h=>by cases b<;>simp only[lH]at h<;>cases h
 | .e0 _,b,h=>by cases b<;>simp only[lH]at h<;>cases h
 | .ow _ _ _ _,b,h=>by cases b<;>simp only[lH]at h<;>cases h
 | .po _ _,b,h=>by cases b<;>simp only[lH]at h<;>cases h
 | .pi _ _,b,h=>by cases b<;>simp only[lH]at h<;>cases h
 | .fn _ _ _,b,h=>by cases b<;>simp only[lH]at h<;>cases h
 | .tp _,b,h=>by cases b<;>simp only[lH]at h<;>cases h
 | .err,b,h=>by cases b<;>simp only[lH]at h<;>cases h
theorem aFh:∀ {a b:List TV},yD a b=true->a=b
 | [],b,h=>by cases b<;>simp only[yD]at h<;>first|(cases h;done)|rfl
 |x::l,b,h=>by cases b<;>simp only[yD]at h<;>first|(cases h;done)|(simp only[bIN]at h;rw[aZn h.1,aFh h.2])
end
end
section
theorem bEa{pr:cM}(b:pr 112=none)(m:Nat)(st:St)(k:KS):eO PG pr 112 (cD PG pr true (m+40)) [.v (.slice none 0 0)] st k=k (.sl st.nxt 0 0 (some 0) 1) (st.new ⟨[],true⟩):=by
 unfold eO
 rw[b]
 kernel_rfl
theorem bFF{pr:cM}(b:pr 112=none)(m:Nat)(st:St)(k:KS):eO PG pr 112 (cD PG pr true (m+40)) [.se] st k=k (.sl st.nxt 0 0 (some 0) 1) (st.new ⟨[],true⟩):=by
 unfold eO
 rw[b]
 kernel_rfl
theorem bFh{pr:cM}(b:pr 112=none)(m:Nat)(st:St)(id:Id)(off sz:Nat)(cap:Option Nat)(k:KS):eO PG pr 112 (cD PG pr true (m+40)) [.sl id off 0 cap sz] st k=k (.sl st.nxt 0 0 (some 0) 1) (st.new ⟨[],true⟩):=by
 unfold eO
 rw[b]
 kernel_rfl
theorem aYH{pr:cM}(b:pr 112=none):jT PG pr 112 [.em] (.im 1 []) true:=by
 intro st al F i j l d o f _
 have new:∀a:AV,(∀m k,eO PG pr 112 (cD PG pr true (m+40)) [a] st k=k (.sl st.nxt 0 0 (some 0) 1) (st.new ⟨[],true⟩))->∃a' st' F',aAN st st' F F' a' (.im 1 []) true/\∃N,∀n,N<=n->∀k,eO PG pr 112 (cD PG pr true n) [a] st k=k a' st':=fun a h=>by
  refine⟨.sl st.nxt 0 0 (some 0) 1,st.new ⟨[],true⟩,fun id=>F id\/id=st.nxt,⟨?_,rfl,fun id h=> .inl h,fun id h=>h.elim .inl fun e=> .inr ?_,fun id h=>aIT h,rfl,rfl, ?_,fun _=> .inr ⟨rfl,1,[],st.nxt,0,some 0,⟨[],true⟩,[],[],.inl ⟨rfl,rfl,rfl,rfl⟩,.nil,rfl,by decide,bIK _, ?_,aIe,rfl,.nil,fun c e=>by cases e;exact⟨bIK _,rfl⟩⟩⟩,40,fun n hn k=> ?_⟩
  ·exact TR.im (blk:=⟨[],true⟩) (.inr rfl) ⟨aIe,rfl⟩ (bIK _) .nil
  ·subst e;rw[mB];exact⟨bIK _,bIZ _⟩
  ·rw[mB];exact Nat.le_succ _
  ·rw[mB];exact bIZ _
  ·obtain⟨m,rfl⟩:∃m,n=m+40:=⟨n-40,by omega⟩
   exact h m k
 cases j with |cons p g=>
 cases g
 cases p with
 |emv=>exact new _ fun m k=>bEa b m st k
 |emse=>exact new _ fun m k=>bFF b m st k
 |ems q hf g=>exact new _ fun m k=>bFh b m st _ _ _ _ k
end
section
open Go Go.RowKit
def aKw:List Nat:=[201,121,129]
def isJ:lW:=⟨fun f=>aKw.elem f||aE4.elem f,fun f=>aU1.elem f,fun f=>aDP.elem f⟩
abbrev VK(T:List CE):Nat->cN:=gG PG isJ (pvT T)
theorem aS1:∀f,isJ f=true->cC.prim f=false:=fun f h=>by
 have h':(aKw.elem f||aE4.elem f)=true:=h
 rcases Bool.or_eq_true_iff.1 h' with h|h
 ·have:=bJP.1 h
  simp only[aKw,bJ4,bKf,or_false]at this
  rcases this with rfl|rfl|rfl<;>rfl
 ·exact aSk f h
theorem bHN{pr:cM}(h:uI pr)(T:List CE)(n:Nat):mK PG pr (VK T n):=aBO (aRF h T) (fun _ h=>aDo h) (fun f hf=>h.no (aS1 f hf)) h.np n
def CE.fix(f:bQf)(args:List TV)(R:TV)(own:Bool)(ok:∀pr,uI pr->jT PG pr f args R own):CE:=⟨f,fun a=>bif yD a args then some (R,own)else none,fun pr h a R' own' e=>by
 cases c:yD a args with
 |false=>rw[c]at e;cases e
 |true=>
  rw[c]at e
  cases e
  rw[aFh c]
  exact ok pr h⟩
def CE.run{T:List CE}{n:Nat}{f:bQf}{args:List TV}{R:TV}{own:Bool}(h:VK T n f args=some (R,own)):CE:= .fix f args R own fun _ d=>bHN d T n _ _ _ _ h
def bHh:CE:= .fix 112 [.em] (.im 1 []) true fun _ h=>aYH (h.no (by kernel_rfl))
def zU(z:Int):List TV:=match z with | .ofNat 0=>[.b false,.em]| .ofNat n=>[.b false,.im 1 [.int .u32 (n:Nat)]]| .negSucc n=>[.b true,.im 1 [.int .u32 (n+1:Nat)]]
def oI(a b:Int):List TV:=zU a++zU b
def fN(l:List Int):TV:= .im 4 ((l.map fun z=>zU z++zU 1).flatten)
def exI(l:List Int):TV:= .im 2 ((l.map zU).flatten)
def mU(l:List Int)(r:Int):TV:= .ag [exI l,.int .i64 r]
def ex0(v:TV):TV:= .tp [v,.int .i64 ((0:Nat):Int)]
def exN(z:Int):TV:= .ag [.em,fN [z]]
def ex2:TV:= .ag [.im 1 [fN [2]],fN [0,1]]
def ex3:TV:= .ag [.im 1 [fN [3]],fN [0,1]]
def aKx:TV:= .ag [.im 1 [fN [2]],fN [0, -1]]
def ex5:TV:= .ag [.im 1 [fN [2],fN [3,0]],fN [0,1,1,0]]
def T0:List CE:=bHh::cT
theorem bG1:VK T0 40 14 [.int .i64 2]=some (exN 2,false):=by kernel_rfl
theorem bFi:VK T0 40 14 [.int .i64 3]=some (exN 3,false):=by kernel_rfl
theorem bHx:VK T0 40 17 [ex2]=some (aKx,false):=by kernel_rfl
end
end Go.Proofs.YtmjoaipkaddkbaaGreatDoor.Ev