/- Part of a proof. -/
import Derived.Test.YtmjoaipkaddkbaaGreatDoorP08
import Derived.Lib.AppendIntMem
import Derived.Test.YtmjoaipkaddkbaaGreatDoorP09
import Derived.Lib.SliceRun
import Derived.Deep.AppendLies
import Derived.Maps.AppendAt
import Derived.Shelf.RegionOpen
noncomputable section
open Array renaming getElem?_eq_some_iff→bLm,length_toList→bLC,size_replicate→bMC
open List renaming append_assoc→bKH,append_nil→bKQ,cons_append→bKm,eq_nil_of_length_eq_zero→bKB,getD_eq_getElem?_getD→bK0,getElem?_eq_getElem→bKO,getElem?_map→bLP,getElem?_take_of_lt→bMS,length_append→bJW,length_cons→bJN,length_map→bKo,length_replicate→bKu,length_singleton→bMT,map_cons→bKc,map_map→bLs,mem_append→bKy,mem_cons→bJZ,mem_cons_of_mem→bKx,mem_cons_self→bKn,mem_singleton→bKF,not_mem_nil→bLj,replicate→bJL,reverse_reverse→bNp,size_toArray→bLi,take_of_length_le→bJU
open Nat renaming div_add_mod→bL2,eq_of_beq_eq_true→bJY,le_refl→bJE,lt_of_lt_of_le→bJK,lt_or_ge→bJS,mod_lt→bK6,mul_assoc→bK1,mul_comm→bJR,mul_le_mul_right→bK8,pow_succ→bJX,zero_add→bKi
open Option renaming bind_eq_some_iff→bJF
open Go renaming TypeId→bR5,Value→bR4,World→bR3
set_option maxRecDepth 10000000
open Go
open Go.Proofs.Tryz
open Go.Lib renaming decDigits→cm,nDigits→cn,nDigits_small→cq,decDigits_length→ct,hid→br,zeros24→cy,repeatL→cz,IsBuilderF→da,BuilderAtF→db,OthersKept→dc,byteCells→de,fresh_isBuilder→df,trimPrefix→cg,hasPrefix→ce,cut→cu,splitB→dg,countB→dh,atoiAll→cw
namespace Go.Proofs.YtmjoaipkaddkbaaGreatDoor
theorem aIw(c:Nat):∀cs:List Nat,mU (cs++[c])=c*1000000000^cs.length+mU cs
 | []=>by simp [mU]
 |d::cs=>by
  rw[bKm,mU,aIw c cs,mU,bJN,bJX,←bK1]
  omega
def oT(a x:Nat)(cs:List Nat):Prop:=(∀c∈cs,c<1000000000)/\a=x*1000000000^cs.length+mU cs/\(x=0->∃l t,cs=l++[t]/\t≠0)
theorem oT.start{a:Nat}(h:0<a):oT a a []:=⟨fun _ h=>(by cases h),by simp [mU],fun h0=>by omega⟩
theorem oT.step{a x:Nat}{cs:List Nat}(h:oT a x cs)(hx:0<x):oT a (x/1000000000) (cs++[x%1000000000]):=by
 obtain⟨h1,h2, -⟩:=h
 refine⟨fun c hc=> ?_, ?_,fun h0=>⟨cs,_,rfl,by omega⟩⟩
 ·rcases bKy.1 hc with hc|hc
  ·exact h1 c hc
  ·rw[bKF.1 hc];exact bK6 _ (by decide)
 ·rw[h2,aIw,bJW,bMT,bJX,←Nat.add_assoc,bJR _ 1000000000,←bK1,←Nat.add_mul]
  congr 2
  have:=bL2 x 1000000000
  omega
theorem oT.len{a x:Nat}{cs:List Nat}(h:oT a x cs)(h0:0<x)(f:a<2^256):cs.length<=8:=by
 obtain⟨-,h2, -⟩:=h
 rcases bJS 8 cs.length with h|h
 ·exfalso
  have b:1000000000^9<=1000000000^cs.length:=Nat.pow_le_pow_right (by decide) h
  have o:1*1000000000^cs.length<=x*1000000000^cs.length:=bK8 _ h0
  have q:(2:Nat)^240<1000000000^9:=by decide
  omega
 ·exact h
theorem oT.fin{a:Nat}{cs:List Nat}(h:oT a 0 cs)(f:a<2^256):cs.length<=9/\0<cs.length/\vW cs=cm a:=by
 obtain⟨h1,h2,b⟩:=h
 obtain⟨l,t,rfl,j⟩:=b rfl
 rw[Nat.zero_mul,bKi]at h2
 have hc:=(aMM (l++[t]) h1 (fun h=>by rw[List.getLast_concat];exact j) (by simp)).1
 rw[←h2]at hc
 refine⟨?_,by simp,hc⟩
 have m:oT a t l:=⟨fun c hc=>h1 c (List.mem_append_left _ hc),by rw[h2,aIw],fun h0=>absurd h0 j⟩
 have:=m.len (by omega) f
 rw[bJW,bMT];omega
def nS(k:Nat)(ys:List (Nat×Nat)):List UInt8:=ys.flatMap fun p=>if p.1+1<k then bJL (9-cn p.2) 48++cm p.2 else cm p.2
theorem aNX(k:Nat)(ys:List (Nat×Nat))(y:Nat×Nat):nS k (ys++[y])=nS k ys++if y.1+1<k then bJL (9-cn y.2) 48++cm y.2 else cm y.2:=by
 simp [nS]
theorem aNQ{u:Nat}(h:u<1000000000):cn u<=9:=by
 have s:∀(k u:Nat),u<10^(k+1)->cn u<=k+1:=by
  intro k
  induction k with
  |zero=>intro u h;rw[cq (by omega)];omega
  | succ k ih=>
   intro u h
   by_cases h1:u<10
   ·rw[cq h1];omega
   ·rw[Lib.nDigits_big h1]
    have:=ih (u/10) (by rw[bJX]at h;omega)
    omega
 exact s 8 u h
theorem aRF(k:Nat):∀ys:List (Nat×Nat),(∀y∈ys,y.2<1000000000)->(nS k ys).length<=9*ys.length
 | [],_=>by simp [nS]
 |y::ys,h=>by
  have h1:=aRF k ys fun z n=>h z (bKx _ n)
  have h2:=aNQ (h y bKn)
  have b:=ct y.2
  have e:nS k (y::ys)=(if y.1+1<k then bJL (9-cn y.2) 48++cm y.2 else cm y.2)++nS k ys:=by simp [nS]
  rw[e,bJW,bJN]
  split
  ·rw[bJW,bKu];omega
  ·omega
theorem aMs:∀(cs:List Nat) (i:Nat),(∀c∈cs,c<1000000000)->cs≠ []->nS (i+cs.length) ((List.range' i cs.length).zip cs).reverse=vW cs
 | [],_,_,h=>absurd rfl h
 | [c],i,_,_=>by
  simp [nS,vW,List.range'_succ]
 |c::d::cs,i,h,_=>by
  have ih:=aMs (d::cs) (i+1) (fun x hx=>h x (bKx _ hx)) (by simp)
  rw[show i+(c::d::cs).length=i+1+(d::cs).length by simp only[bJN];omega,show(c::d::cs).length=(d::cs).length+1 from rfl,List.range'_succ,List.zip_cons_cons,List.reverse_cons,aNX,ih,vW]
  rw[if_pos (by simp only[bJN];omega),aRn 8 c (h c bKn)]
theorem bBb{cs:List Nat}{ys:List (Nat×Nat)}(hc:∀c∈cs,c<1000000000)(h0:cs≠ [])(h1:ys.map (fun p=>p.2)=cs.reverse)(h2:ys.map (fun p=>p.1)=(List.range cs.length).reverse):nS cs.length ys=vW cs:=by
 have e:∀l:List (Nat×Nat),l=(l.map (fun p=>p.1)).zip (l.map (fun p=>p.2)):=by
  intro l
  induction l with
  |nil=>rfl
  |cons a l ih=>rw[bKc,bKc,List.zip_cons_cons,←ih]
 have b:=aMs cs 0 hc h0
 rw[bKi]at b
 rw[←b]
 congr 1
 have g1:=congrArg List.reverse h1
 have g2:=congrArg List.reverse h2
 rw[bNp,←List.map_reverse]at g1 g2
 have g:=e ys.reverse
 rw[g1,g2]at g
 rw[←List.range_eq_range',←g,bNp]
section
open Go Go.RowKit Go.Shelf Go.Sort
def GLp(w:bR3):Prop:=Lib.TabIs prog w "internal/strconv.uint64pow10" .u64 Lib.pow10Tab
theorem GLp.ext{w w':bR3}(h:GLp w)(hx:bY w w'):GLp w':=Lib.tabBelow_of_tabIs h w' hx
set_option maxHeartbeats 6400000 in
set_option maxRecDepth 100000 in
theorem aVI(u:Nat)(hu:u<4294967296)(w:bR3)(hg:GLp w):
  Calls prog 185 #[.int .u64 (u:Int),.int .i64 10] w fun e w'=>e= .returned (.string ⟨(cm u).toArray⟩)/\bY w w':=by
 by_cases hs:u<100
 ·have HSM:=br (fun w1=>Any.internal_strconv_small bPr u hs w1)
  go_enter func185,ntmps185
  go_wp2_with fail
  refine(HSM.out _).mono ?_
  rintro e w1 ⟨rfl,rfl⟩
  go_wp2_with fail
  go_ret
  exact⟨rfl,bY.refl _⟩
 ·have hu1:1<=u:=by omega
  have hu64:u<18446744073709551616:=by omega
  have hnd20:cn u<=20:=by have:=Lib.numDigits_eq u hu1 hu64;split at this<;>omega
  have hal:(prog).arrayLen 232=24:=by kernel_rfl
  have hel:(prog).elem 232=5:=by kernel_rfl
  have hsl1:∀W,(Instr.sliceAt 232 (.pointer (some ⟨w.heap.size,0,none⟩)) none (some (.int .i64 (cn u:Int))) none).run prog W= .ok (.slice (some ⟨w.heap.size,0,none⟩) (cn u) 24) W:=fun W=>by
   rw[run_sliceAt_array_h W 232 ⟨w.heap.size,0,none⟩ (by rw[hal,hel];exact underlying232) .i64 (cn u:Int) (by omega) (by rw[hal];omega),hel,hal]
   go_simp
  have hH0:=Lib.holds_zero0 w 232 (cn u) (by omega)
  have hfmt:=Any.internal_strconv_formatBase10 bPt w.heap.size 0 24 u (Array.replicate (cn u) 0) (w.alloc (.cells cy 232)) hH0 (by rw[bMC];exact Lib.lt_pow_nDigits u) hu64 (by rw[bMC];omega)
  rw[bMC]at hfmt
  have hnum:=fun w1 (hx:bY w w1)=>Any.internal_strconv_numDigits bQb u hu1 hu64 w1 (hg.ext hx)
  have HNUM:=br hnum
  have HFMT:=br hfmt
  have HH0:=br hH0
  clear hH0 hal hel hfmt hnum
  go_enter func185,ntmps185
  go_wp2_with fail
  refine(HNUM.out _ (bY.alloc _ _)).mono ?_
  rintro e w1 ⟨rfl,rfl⟩
  go_wp2_with fail
  refine HFMT.out.mono ?_
  rintro e w1 ⟨rfl,k,v',dk,rfl,hF⟩
  have hcv:(convert 119 9 (.slice (some ⟨w.heap.size,0,none⟩) (cn u) 24)).run prog ((putRow (fun(b:UInt8)=>Value.int .u8 (b.toNat:Int)) (w.alloc (.cells cy 232)) w.heap.size 0 dk).drewN k)= .ok (.string ⟨(cm u).toArray⟩) ((putRow (fun(b:UInt8)=>Value.int .u8 (b.toNat:Int)) (w.alloc (.cells cy 232)) w.heap.size 0 dk).drewN k):=by
   have h:=run_convert_bytes_back (P:=prog) ((putRow (fun(b:UInt8)=>Value.int .u8 (b.toNat:Int)) (w.alloc (.cells cy 232)) w.heap.size 0 dk).drewN k) 119 9 5 ⟨w.heap.size,0,none⟩ 24 (cm u) underlying119 underlying5 underlying9 (fun j hj=>by
    rw[Lib.row_is_numeral hF j hj,Lib.add_plain,World.cell?_drewN]
    exact cell?_putRow (fun(b:UInt8)=>Value.int .u8 (b.toNat:Int)) _ w.heap.size 0 _ dk HH0.out (by rw[hF.size,bMC]) j (by rw[hF.size];rw[ct]at hj;exact hj))
   rw[ct]at h
   exact h
  have HFIN:Hid (bY w ((putRow (fun(b:UInt8)=>Value.int .u8 (b.toNat:Int)) (w.alloc (.cells cy 232)) w.heap.size 0 dk).drewN k)):=by
   obtain⟨os,eo⟩:=Lib.fin_at w (.cells cy 232) dk k 0
   rw[eo]
   exact Lib.below_grow _ _ (bJE _) _ _
  generalize (putRow (fun(b:UInt8)=>Value.int .u8 (b.toNat:Int)) (w.alloc (.cells cy 232)) w.heap.size 0 dk).drewN k=W1 at*
  go_wp2_with fail
  go_ret
  exact⟨rfl,HFIN.out⟩
set_option maxRecDepth 100000 in
theorem aVN(u:Nat)(hu:u<4294967296)(w:bR3)(hg:GLp w):
  Calls prog 97 #[.int .u64 (u:Int),.int .i64 10] w fun e w'=>e= .returned (.string ⟨(cm u).toArray⟩)/\bY w w':=by
 have H:=br (aVI u hu w hg)
 go_enter func97,ntmps97
 go_wp2_with fail
 refine H.out.mono ?_
 rintro e w1 ⟨rfl,hx⟩
 go_wp2_with fail
 go_ret
 exact⟨rfl,hx⟩
theorem aUc:∀k,cz [(48:UInt8)] k=bJL k 48
 |0=>rfl
 |k+1=>by
  have:=aUc k
  simp_all [cz,List.replicate_succ]
theorem aW2(k:Nat)(hk:k<=1000)(w:bR3):
  Calls prog 99 #[.string ⟨#[48]⟩,.int .i64 (k:Int)] w fun e w'=>e= .returned (.string ⟨(bJL k 48).toArray⟩)/\bY w w':=by
 match k,hk with
 |0,_=>
  refine(Any.strings_Repeat_zero bOj _ w).mono ?_
  rintro e w1 ⟨rfl,rfl⟩
  exact⟨rfl,bY.refl _⟩
 |1,_=>
  refine(Any.strings_Repeat_one bOj _ w).mono ?_
  rintro e w1 ⟨rfl,rfl⟩
  exact⟨rfl,bY.refl _⟩
 |k+2,hk=>
  refine(Any.strings_Repeat_main bOj bNs ⟨#[48]⟩ (k+2) w (by omega) (by omega) (by show 1*(k+2)<=_;omega) (by decide)).mono ?_
  rintro e w1 ⟨rfl,hx⟩
  refine⟨?_,hx⟩
  rw[show cz (⟨#[48]⟩:ByteArray).data.toList (k+2)=bJL (k+2) 48 from aUc (k+2)]
end
section
open Go Go.RowKit Go.Shelf
attribute [local go_sem] Oper.semAt_some
def aSm:bR4->Nat| .slice _ n _=>n|_=>0
theorem aQn:(prog.info? 100).map (fun i=>(i.zero,i.size,i.bytes))=some (some (.int .u32 0),1,4):=by kernel_rfl
theorem bIY{ρ x n:Nat}(hρ:ρ<n)(hn:n<4294967296)(hx:x<4294967296):
  IntKind.u64.wrap ((bits .or .u64 ((ρ:Int)*4294967296) (x:Int)).tdiv (n:Int))%4294967296=(((x+4294967296*ρ)/n:Nat):Int):=by
 have h:=aGD hρ hx
 rw[aIq _ _ (by omega) hx,←Int.ofNat_tdiv,IntKind.wrap_u64]
 generalize (x+4294967296*ρ)/n=q at*
 omega
theorem bJ0{ρ x n:Nat}(hρ:ρ<n)(hn:n<4294967296)(hx:x<4294967296):
  (bits .or .u64 ((ρ:Int)*4294967296) (x:Int)).tmod (n:Int)=(((x+4294967296*ρ)%n:Nat):Int):=by
 rw[aIq _ _ (by omega) hx,←Int.ofNat_tmod]
def aCO(w:bR3)(g:Nat)(s:Bool)(u:bR4):Prop:=w.cell? ⟨g,0,none⟩=some (.bool s)/\w.cell? ⟨g,1,none⟩=some u/\w.frozen? ⟨g,0,none⟩=false/\w.frozen? ⟨g,1,none⟩=false/\g<w.heap.size/\aAS w g
theorem aCO.ext{w w':bR3}{g:Nat}{s:Bool}{u:bR4}(h:aCO w g s u)(hx:bY w w'):aCO w' g s u:=by
 obtain⟨h0,h1,h2,h3,h4,h5⟩:=h
 exact⟨(hx.cell (p:=⟨g,0,none⟩) h4).trans h0,(hx.cell (p:=⟨g,1,none⟩) h4).trans h1,(Below.frozen hx (p:=⟨g,0,none⟩) h4).trans h2,(Below.frozen hx (p:=⟨g,1,none⟩) h4).trans h3,bJK h4 hx.size,h5.ext h4 hx⟩
theorem aCO.new(w:bR3)(s:Bool)(u:bR4)(T:bR5)(hu:∀n,u≠ .int .u32 n):aCO (w.alloc (.cells #[.bool s,u] T)) w.heap.size s u:=by
 refine⟨by simp [go_sem],by simp [go_sem],by simp [go_sem],by simp [go_sem],by simp,aAS.new _ _ _ ?_⟩
 intro x hx n
 simp only[List.mem_toArray,bJZ,bLj,or_false]at hx
 rcases hx with rfl|rfl
 ·simp
 ·exact hu n
set_option maxHeartbeats 400000 in
theorem aPp{A:Option Addr}{n c:Nat}{xs:List Nat}{w:bR3}(h:jU w (.slice A n c) xs):
  Calls prog 94 #[.slice A n c] w fun e w'=>e= .returned (.slice A (cJ xs).length c)/\w=w':=by
 obtain⟨A',c',hv,hl,hm,hL,hc⟩:=h
 obtain⟨rfl,rfl,rfl⟩:A=A'/\n=xs.length/\c=c':=by injection hv with h1 h2 h3;exact⟨h1,h2,h3⟩
 clear hv
 go_enter func94,ntmps94
 go_wp2
 go_loop [0] (fun m=>∃n:Nat,n<=xs.length/\m= .slice A n c/\Hid (cJ (xs.take n)=cJ xs)) (fun m=>aSm m)
 case atStart=>exact⟨xs.length,bJE _,rfl,by rw[List.take_length];rfl⟩
 case round=>
  obtain⟨n,hn,rfl,HT⟩:=hrel
  by_cases h0:0<n
  ·obtain⟨b,off,rfl,hb,hcell⟩:=hc (by omega)
   obtain⟨k,rfl⟩:∃k,n=k+1:=⟨n-1,by omega⟩
   have hk:=hcell k (by omega)
   have hxk:=hL.getD k
   clear hc hcell
   have H0:Hid (xs.getD k 0=0->cJ (xs.take k)=cJ xs):=fun h=>(xJ (by omega) h).symm.trans HT
   have H1:Hid (xs.getD k 0≠0->(cJ xs).length=k+1):=fun h=>HT ▸ xK (by omega) h
   generalize xs.getD k 0=x at*
   by_cases hz:x=0
   ·subst hz
    go_wp2
    go_round
    case rel=>exact⟨k,by omega,by simp,H0.out rfl⟩
    case measure=>simp [aSm]
   ·have hz':((x:Int)==0)=false:=by simp;omega
    go_wp2
    go_ret
    exact⟨by rw[H1.out hz];rfl,rfl⟩
  ·obtain rfl:n=0:=by omega
   go_wp2
   go_ret
   exact⟨by rw[←HT.out];rfl,rfl⟩
theorem aVX{w:bR3}{base:Nat}{v:bR4}{l:List Nat}(h:w.ownsRow base 100 1 v l.length (gZ l))(hL:bD l)(hl:l.length<=35184372088832):jU w v l:=by
 rcases h.2 with ⟨rfl,hn⟩|⟨g,cap,dE,rfl,hb,hg,hcap,hcm,hcs,htk⟩
 ·obtain rfl:=bKB hn
  exact jU.nil _
 ·refine⟨some ⟨g,0,none⟩,cap,rfl,hcap,hl,hL,fun _=>⟨g,0,rfl,(bLm.1 hg).1,fun k hk=> ?_⟩⟩
  have h6:(gZ l)[k]? =some (.int .u32 ((l.getD k 0:Nat):Int)):=by unfold gZ;rw[bLP,bKO hk,bK0,bKO hk];rfl
  rw[←htk,List.getElem?_take]at h6
  split at h6
  ·rw[cell_of_row w g _ dE _ _ hg,bKi]
   simpa using h6
  ·cases h6
set_option maxRecDepth 100000 in
set_option maxHeartbeats 800000 in
theorem aVP{A:Option Addr}{n c:Nat}{xs:List Nat}{w:bR3}(h:jU w (.slice A n c) xs):
  Calls prog 93 #[.slice A n c] w (Ret w fun v w'=>w'.ownsRow w.heap.size 100 1 v xs.length (gZ xs)):=by
 obtain⟨rfl,hl,hm⟩:=h.len
 have hL:=h.limb
 have qn:∀(w:bR3) (a:Option Addr) (n c n' c':Nat),(binOp .eql 45 (.slice a n c) (.slice none n' c')).run prog w= .ok (.bool a.isNone) w:=fun w a n c n' c'=>Lib.run_eql_slice_nil w _ _ a n c n' c' underlying45
 cases A with
 | none=>
  have hn:xs=[]:=by
   by_cases h0:0<xs.length
   ·obtain⟨b,off,e,_⟩:=h.at_ h0;cases e
   ·exact bKB (by omega)
  subst hn
  go_enter func93,ntmps93
  go_wp2_with fail
  go_ret
  exact⟨_,rfl,World.ownsRow_nil _ _ _ _,(by repeat (first|exact bY.refl _|assumption|refine bY.pdrewN ?_ _|refine bY.pdrew ?_|refine bY.palloc ?_ _|refine bY.pset ?_ (by simp<;>omega) _|refine bY.trans ?_ (by assumption)))⟩
 | some a=>
  have hnews:∀j u,(gZ xs)[j]? =some u->w.cell? (a.add j)=some u:=by
   intro j u hj
   obtain⟨hjl,hju⟩:=List.getElem?_eq_some_iff.1 hj
   simp [gZ]at hjl
   obtain⟨b,off,e1,hb, -,hcell⟩:=h.at_ hjl
   injection e1 with e1
   subst e1
   have:=hcell j hjl
   rw[Addr.add_lit,this,←hju]
   simp [gZ,bKO hjl]
  have HN:=br hnews
  have hown:(w.alloc (.cells #[] 100)).ownsRow w.heap.size 100 1 (.slice (some ⟨w.heap.size,0,none⟩) 0 0) 0 []:=
   ⟨rfl,.inr ⟨w.heap.size,0, #[],rfl,bJE _,by rw[heap_alloc_new],bJE _,Nat.zero_le _,rfl,rfl⟩⟩
  have HO:=br hown
  have HL:=br (ab hm hL)
  have HW:Hid ((gZ xs).length=xs.length*1):=by show _=_;simp [gZ]
  have HU:Hid (∀u∈gZ xs,u.oneCell'=true):=(by intro u hu;simp [gZ]at hu;obtain⟨x,_,rfl⟩:=hu;rfl)
  clear h hnews hown hm hL
  generalize gZ xs=ws at*
  generalize xs.length=n at*
  obtain⟨i0,hi,hz0,hz1,hz2⟩:=info_parts aQn
  go_enter func93,ntmps93
  go_wp2_with (at_builtin;refine wpList_append_own _ rfl _ _ 45 rfl w.heap.size 100 i0 (.int .u32 0) 1 4 underlying45 hi hz0 hz1 hz2 rfl (by decide) _ 0 [] rfl HO.out a n c ws rfl HW.out ?c1 ?c2 (by have:=HL.out.1;unfold maxLen;omega) (by have:=HL.out.1;omega) (by simp) ?_)
  case c1=>
   intro j u hj
   exact Lib.cell?_alloc_some _ (HN.out j u hj)
  case c2=>exact HU.out
  intro v' w' h1 h2 _
  have HF:=br h1
  obtain⟨A',c',rfl⟩:∃A c,v'= .slice A n c:=by
   rcases h1.2 with ⟨h1,h2⟩|⟨g,cap,dE,h1, -⟩
   ·exact⟨none,0,by rw[h1,h2]⟩
   ·exact⟨_,_,h1⟩
  go_wp2_with fail
  go_ret
  exact⟨_,rfl,by simpa using HF.out,(Below.refl _ _).alloc (bJE _) _ |>.grown h2 (by simp) (fun k e=>by cases e;simp)⟩
theorem bCp{w:bR3}{B g n c:Nat}{xs:List Nat}(h:w.ownsRow B 100 1 (.slice (some ⟨g,0,none⟩) n c) n (gZ xs)){k:Nat}(hk:k<=n):w.ownsRow B 100 1 (.slice (some ⟨g,0,none⟩) k c) k (gZ (xs.take k)):=by
 obtain⟨h1,h2⟩:=h
 rcases h2 with ⟨h2, -⟩|⟨g',cap,dE,h2,hb,hg,hn,hc,hs,ht⟩
 ·cases h2
 ·obtain⟨rfl,rfl⟩:g=g'/\c=cap:=by injection h2 with e1 _ e3;injection e1 with e1;injection e1 with e1;exact⟨e1,e3⟩
  refine⟨?_,.inr ⟨g,c,dE,rfl,hb,hg,by omega,hc,hs, ?_⟩⟩
  ·simp [gZ]at h1 ⊢;omega
  ·have:dE.toList.take (k*1)=(dE.toList.take (n*1)).take k:=by rw[List.take_take];congr 1;omega
   rw[this,ht]
   simp [gZ,List.map_take]
theorem bEN{w:bR3}{B g n c:Nat}{xs:List Nat}(h:w.ownsRow B 100 1 (.slice (some ⟨g,0,none⟩) n c) n (gZ xs))(j x:Nat):(w.setCell ⟨g,j,none⟩ (.int .u32 (x:Int))).ownsRow B 100 1 (.slice (some ⟨g,0,none⟩) n c) n (gZ (xs.set j x)):=by
 have:=(h.stored j (.int .u32 (x:Int))).1
 rwa [show(gZ xs).set j (.int .u32 (x:Int))=gZ (xs.set j x) by simp [gZ,List.map_set]]at this
theorem aOU{w:bR3}{B g n c:Nat}{xs:List Nat}(h:w.ownsRow B 100 1 (.slice (some ⟨g,0,none⟩) n c) n (gZ xs))(hx:xs.length=n){j:Nat}(hj:j<n):w.cell? ⟨g,j,none⟩=some (.int .u32 ((xs.getD j 0:Nat):Int)):=by
 rw[h.cellAt j (by omega)]
 unfold gZ
 rw[bLP,bKO (by omega),bK0,bKO (by omega)]
 rfl
def oH(w:bR3)(B g n c:Nat)(zs:List Nat):Prop:=w.ownsRow B 100 1 (.slice (some ⟨g,0,none⟩) n c) n (gZ zs)/\zs.length=n/\bD zs
def aBa(w:bR3)(b:Nat)(v:bR4)(cs:List Nat):Prop:=Boxed w b 45 v/\w.ownsRow b 100 1 v cs.length (gZ cs)
theorem oH.set_{w:bR3}{B g n c:Nat}{zs:List Nat}(h:oH w B g n c zs)(j:Nat){x:Nat}(hx:x<4294967296):oH (w.setCell ⟨g,j,none⟩ (.int .u32 (x:Int))) B g n c (zs.set j x):=
 ⟨bEN h.1 j x,by simp [h.2.1],jQ h.2.2 hx⟩
theorem oH.words{w:bR3}{B g n c:Nat}{zs:List Nat}(h:oH w B g n c zs)(hn:n<=5000):jU w (.slice (some ⟨g,0,none⟩) n c) zs:=by
 obtain⟨h1,h2,h3⟩:=h
 subst h2
 exact aVX h1 h3 (by omega)
theorem oH.trim{w:bR3}{B g n c:Nat}{zs:List Nat}(h:oH w B g n c zs):oH w B g (cJ zs).length c (cJ zs):=by
 have h1:=bCp h.1 (k:=(cJ zs).length) (by rw[←h.2.1];exact qN zs)
 rw[←nA]at h1
 exact⟨h1,rfl,aMb h.2.2⟩
theorem aBa.far{w:bR3}{b:Nat}{v:bR4}{cs:List Nat}(h:aBa w b v cs){g j:Nat}(hg:g<b)(u:bR4):aBa (w.setCell ⟨g,j,none⟩ u) b v cs:=by
 have hgr:w.grownBy (w.setCell ⟨g,j,none⟩ u) (some g):=⟨rfl,rfl,rfl,by simp [World.setCell],fun k hk hne=>Below.heap_setCell _ _ _ _ (by intro e;exact hne (by rw[e]))⟩
 refine⟨h.1.kept hgr (by simp;omega),h.2.kept hgr ?_⟩
 rcases hv:v.ownBlock with _|k
 ·exact .inl rfl
 ·right;have:=(h.2.lt k hv).1;simp;omega
theorem oH.kept{w w1:bR3}{B g n c b:Nat}{zs:List Nat}{tmp:Obj}{v v':bR4}{cs:List Nat}(h:oH w B g n c zs)(hc:aBa w b v cs)(hg:g<b)(hgr:(w.alloc tmp).grownBy w1 v.ownBlock):oH (w1.setCell ⟨b,0,none⟩ v') B g n c zs:=by
 refine⟨((h.1.alloc tmp).kept hgr ?_).kept (grownBy_setCell' w1 b v') ?_,h.2⟩
 ·right
  intro e
  have:=(hc.2.lt g e.symm).1
  omega
 ·right;simp [Value.ownBlock];omega
theorem aLG{T e:bR5}{B b:Nat}{bs:List bR4}{w w':bR3}(h:da T e B b bs w)(hk:∀(k:Nat) (c:Array bR4) (t:bR5) (fz:Nat×Nat),w.heap[k]? =some (Obj.cells c t fz)->w'.heap[k]? =some (Obj.cells c t fz)):da T e B b bs w':=by
 have key:∀p,db T e B b p bs w->db T e B b p bs w':=by
  rintro p ⟨hB,v,hb,hown,hne⟩
  refine⟨hB,v,hk _ _ _ _ hb,⟨hown.1, ?_⟩,hne⟩
  rcases hown.2 with h1|⟨g,cap,dE,fz,hv,hbg,hg,rest⟩
  ·exact .inl h1
  ·exact .inr ⟨g,cap,dE,fz,hv,hbg,hk _ _ _ _ hg,rest⟩
 exact h.elim (fun h=> .inl (key _ h)) (fun h=> .inr (key _ h))
theorem aHS{T e:bR5}{B b:Nat}{bs:List bR4}{w w':bR3}(h:da T e B b bs w)(hx:bY w w'):da T e B b bs w':=
 aLG h fun k _ _ _ hk=>(hx.block k (bLm.1 hk).1).trans hk
theorem aMw{e:bR5}{b:Option Nat}{w w':bR3}(hx:bY w w'):dc e b w w':=fun k _ hk _ _=>(hx.block k (bLm.1 hk).1).trans hk
theorem aHL{b:Nat}{l:List UInt8}{s:ByteArray}{w:bR3}(h:da 121 5 b b (de l) w)(hl:l.length+s.size<=1000000000)(hb:b<=w.heap.size):
  Calls prog 98 #[.pointer (some ⟨b,0,none⟩),.string s] w fun e w'=>e= .returned (.tuple #[.int .i64 s.size,.nilIface])/\da 121 5 b b (de (l++s.data.toList)) w'/\Below b w w'/\dc 5 (some b) w w':=by
 refine(Any.Builder_WriteString_k { bOj with } bNs b b (de l) s w h (by rw[Lib.byteCells_length];omega) hb).mono ?_
 rintro e w1 ⟨rfl,h1,h2,h3⟩
 exact⟨rfl,by rw[Lib.byteCells_append];exact .inr h1,h2,h3⟩
theorem bY.trans'{B:Nat}{a b c:bR3}(h:bY a b)(k:Below B b c)(hB:a.heap.size<=B):bY a c:=Below.trans h (k.mono hB)
end
section
open Go Go.RowKit Go.Shelf
attribute [local go_sem] Oper.semAt_some
def rG(ng:Bool):List UInt8:=if ng then [45]else []
def aLQ:Go.Shelf.Ren:=⟨fun |167=>95|n=>bOk.f n,bOk.t,bOk.g⟩
theorem bE2:Lays.n167 prog aLQ:={ bOj with f167:=func95.trans (congrArg some (by kernel_rfl)) }
theorem bCo:Builder.Extra prog aLQ:={
 sizeBuilder:=by kernel_rfl
 liesBuilder:=by kernel_rfl
 t5:=underlying5
 a5:=isAgg5
 z5:=sizeOf5
 v5:=zeroValue5
 infoByte:=by kernel_rfl
 cellsByte:=by kernel_rfl
 sizeByte:=by kernel_rfl
 neB5:=by decide }
theorem aVT{b:Nat}{w:bR3}(h:da 121 5 b b (de []) w)(hb:b<=w.heap.size):
  Calls prog 95 #[.pointer (some ⟨b,0,none⟩),.int .u8 45] w fun e w'=>e= .returned .nilIface/\da 121 5 b b (de [45]) w'/\Below b w w':=by
 refine(Any.Builder_WriteByte_k bE2 bCo b b (de []) 45 w h (by decide) hb).mono ?_
 rintro e w1 ⟨rfl,h1,h2,h3⟩
 exact⟨rfl,.inr h1,h2⟩
def xB(b q kc:Nat)(pre:List UInt8)(bv:bR4)(ys:List (Nat×WK 1000000000))(W:bR3):Prop:=
 da 121 5 b b (de (pre++nS kc (ys.map fun p=>(p.1,p.2.1)))) W/\Boxed W q 45 bv
theorem xB.own(b q kc:Nat)(pre:List UInt8)(bv:bR4):Own (xB b q kc pre bv):=by
 rintro ys W W' row ⟨hl,hb⟩ hg hr
 have hne:∀(k:Nat) (c:Array bR4) (t:bR5) (fz:Nat×Nat),W.heap[k]? =some (Obj.cells c t fz)->some k≠row:=by
  intro k c t fz hk e
  obtain⟨o,ho,hc⟩:=hr k e.symm
  rw[hk]at ho
  cases ho
  cases hc
 exact⟨aLG hl fun k c t fz hk=>(hg.block k (bLm.1 hk).1 (hne k c t fz hk)).trans hk,hb.kept hg (hne _ _ _ _ hb)⟩
theorem xB.next{b q kc B:Nat}{pre:List UInt8}{bv:bR4}{ys:List (Nat×WK 1000000000)}{x:Nat×WK 1000000000}{l:List UInt8}{w7 W W':bR3}(h:xB b q kc pre bv ys W)(hb:Below b w7 W)(hB:b<B)(hq:b<q)
  (hn:da 121 5 b b (de (pre++nS kc (ys.map fun p=>(p.1,p.2.1))++l)) W') (hl:l=if x.1+1<kc then bJL (9-cn x.2.1) 48++cm x.2.1 else cm x.2.1) (hw:Below b W W') (ho:dc 5 (some b) W W'):
  KeepsFrom B W W'/\KpB b q W W'/\xB b q kc pre bv (ys++[x]) W'/\Below b w7 W':=by
 have hbx:Boxed W' q 45 bv:=ho _ _ h.2 (by intro e;injection e with e;omega) (by intro c fz e;injection e with _ e _;revert e;decide)
 refine⟨⟨hw.size,fun k o hk h1 h2=>ho k o h1 (by intro e;injection e with e;omega) (by rintro c fz rfl;cases h2)⟩,⟨hw,fun v hv=> ?_⟩,⟨?_,hbx⟩,hb.trans hw⟩
 ·rw[h.2.cell]at hv
  rw[hbx.cell,hv]
 ·rw[List.map_append,List.map_singleton,aNX,←bKH,←hl]
  exact hn
set_option maxRecDepth 100000 in
set_option maxHeartbeats 6400000 in
theorem aX7{A:Option Addr}{n c a:Nat}{ng:Bool}{w:bR3}(h:jU w (.slice A n c) (aO a))(hl:n<=5000)(ha:a<2^256)(hg:GLp w):
  Calls prog 35 #[.agg #[.bool ng,.slice A n c]] w fun e w'=>e= .returned (.string ⟨(if a=0 then [48]else rG ng++cm a).toArray⟩)/\bY w w':=by
 have ha:=br ha
 have hlen:=h.len
 have HT:Hid (∀w1,bY w w1->Calls prog 94 #[.slice A n c] w1 fun e w'=>e= .returned (.slice A n c)/\w1=w'):=fun w1 hx=>by
  have:=aPp (h.ext hx)
  rwa [kJ,←hlen.1]at this
 have HC:Hid (∀w1,bY w w1->Calls prog 93 #[.slice A n c] w1 (Ret w1 fun v w'=>w'.ownsRow w1.heap.size 100 1 v n (gZ (aO a)))):=fun w1 hx=>by
  have:=aVP (h.ext hx)
  rwa [←hlen.1]at this
 have HN:=br hlen.1
 have HB:=br (aCO.new w ng (.slice A n c) 47 (by simp))
 clear h hlen
 refine(callsIn_wide (n:=5)).1 ?_
 refine callsIn_of_wp_marks func35 rfl trivial ?_ rfl
 simp only[ntmps35,bLi,bJN,List.length_nil,Nat.reduceAdd,Nat.reduceSub,Array.replicate_succ,Array.replicate_zero,List.push_toArray,List.append_toArray,List.nil_append,bKm]
 obtain⟨y0,y1,y2,y3, -⟩:=HB.out
 gi_wp2_with fail
 refine⟨trivial,callsIn_wide.2 ((HT.out _ (bY.alloc _ _)).mono ?_)⟩
 rintro e w1 ⟨rfl,rfl⟩
 gi_wp2_with fail
 refine⟨trivial,callsIn_wide.2 ((HC.out _ (bY.alloc _ _)).mono ?_)⟩
 rintro e w2 ⟨v2,rfl,ho2,hx2⟩
 have hE2:bY w w2:=bY.trans (bY.alloc _ _) hx2
 rw[World.size_alloc]at ho2
 have HB2:=br (HB.out.ext hx2)
 have HO2:=br ho2
 clear HT HC HB y0 y1 y2 y3 hx2
 by_cases h0:a=0
 ·subst h0
  have hn0:n=0:=by rw[HN.out,gH];rfl
  subst hn0
  obtain⟨A',c',rfl⟩:∃A c,v2= .slice A 0 c:=by
   rcases ho2.2 with ⟨h1, -⟩|⟨g,cap,dE,h1, -⟩
   ·exact⟨none,0,h1⟩
   ·exact⟨_,_,h1⟩
  clear ho2 HO2 HB2 HN
  gi_wp2_with fail
  exact⟨_,results_tmp rfl _ _ _,rfl,hE2⟩
 ·have hpos:0<n:=by rw[HN.out,vG h0];simp
  obtain⟨g,cap,rfl,hgb,hgl⟩:=ho2.form hpos
  clear ho2
  have hM0:oH (w2.alloc (.cells #[.slice none 0 0] 45)) (w.heap.size+1) g n cap (aO a):=⟨HO2.out.alloc _,HN.out.symm,cU a⟩
  have hC0:aBa (w2.alloc (.cells #[.slice none 0 0] 45)) w2.heap.size (.slice none 0 0) []:=⟨Boxed.new w2 _ _,World.ownsRow_nil _ _ _ _⟩
  have hE4:bY w (w2.alloc (.cells #[.slice none 0 0] 45)):=hE2.palloc _
  have HB4:=br (HB2.out.ext (bY.alloc w2 (.cells #[.slice none 0 0] 45)))
  have hs4:w2.heap.size<(w2.alloc (.cells #[.slice none 0 0] 45)).heap.size:=by simp
  have HS0:Hid (oT a a []):=oT.start (by omega)
  have H0:Hid (a≠0):=h0
  have hz:((n:Int)==0)=false:=by rw[ao];omega
  clear HO2 HB2 h0
  gi_wp2_with fail
  generalize (w2.alloc (.cells #[.slice none 0 0] 45))=w4 at*
  generalize w2.heap.size=b4 at*
  have HM0:=br hM0
  have HC0:=br hC0
  clear hM0 hC0
  gi_loopg [3,5,6] a (fun x m r i wr=>∃(k:Nat) (v:bR4) (cs:List Nat),m= .slice (some ⟨g,0,none⟩) k cap/\k<=5000/\Hid (k=(aO x).length)/\Hid (oH wr (w.heap.size+1) g k cap (aO x))/\Hid (aBa wr b4 v cs)/\Hid (oT a x cs)/\Hid (Below g w4 wr))
  case atStart=>exact⟨n,_,[],rfl,hl,HN,HM0,HC0,HS0,Below.refl _ _⟩
  case round=>
   obtain⟨k,v,cs,rfl,hk,HK,HM,HCR,HCS,HBE⟩:=hrel
   by_cases hx0:gk=0
   ·subst hx0
    have hk0:k=0:=by rw[HK.out,gH];rfl
    subst hk0
    obtain⟨hl9,hl0,hnd⟩:=HCS.out.fin ha.out
    have hcc:=HCS.out.1
    have hcs:∀i,cs.getD i 0<1000000000:=fun i=>by
     rcases bJS i cs.length with h|h
     ·rw[bK0,bKO h];exact hcc _ (List.getElem_mem h)
     ·rw[bK0,List.getElem?_eq_none h];exact Nat.zero_lt_succ _
    have HND:=br hnd
    have HCC:=br hcc
    obtain⟨hbx,hrow⟩:=HCR.out
    obtain⟨g5,c5,rfl,hg5,hl5⟩:=hrow.form (by omega)
    have hbc:=hbx.cell
    have hb4:b4<wr.heap.size:=hbx.lt
    have hneg:wr.cell? ⟨w.heap.size,0,none⟩=some (.bool ng):=(HBE.out.cell (p:=⟨w.heap.size,0,none⟩) hgb).trans HB4.out.1
    have hwl:w.heap.size<wr.heap.size:=by omega
    have HE:Hid (bY w wr):=hE4.trans' HBE.out (by omega)
    have hcell:∀j,j<cs.length->wr.cell? ⟨g5,j,none⟩=some (.int .u32 ((cs.getD j 0:Nat):Int)):=fun j hj=>aOU hrow rfl hj
    have HCL:=br hcell
    have HCB:=br hcs
    have HBX:=br hbx
    clear hnd hcc hcell hcs HCR hrow hbx HM HCS HK HBE HB4 HM0 HC0 HS0
    generalize hkc:cs.length=kc at*
    obtain⟨b7,hb7⟩:∃b,b=wr.heap.size:=⟨_,rfl⟩
    cases hng:ng
    case' false=>
     gi_wp2_with fail
     have hW5:da 121 5 b7 b7 (de (rG false)) (wr.alloc (.cells #[.pointer none,.slice none 0 0] 121)):=hb7 ▸ Lib.IsBuilderF.of (df _ _ wr)
     have hB5:Below wr.heap.size wr (wr.alloc (.cells #[.pointer none,.slice none 0 0] 121)):=(Below.refl _ _).alloc (bJE _) _
     have hs5:b7<(wr.alloc (.cells #[.pointer none,.slice none 0 0] 121)).heap.size:=by rw[World.size_alloc];omega
     rw[←hb7]
     have hbc5:=(hB5.cell (p:=⟨b4,0,none⟩) hb4).trans hbc
     generalize wr.alloc (.cells #[.pointer none,.slice none 0 0] 121)=w5 at*
    case' true=>
     have HWB:=br (aVT (b:=wr.heap.size) (Lib.IsBuilderF.of (df _ _ wr)) (by simp:wr.heap.size<=(wr.alloc (.cells #[.pointer none,.slice none 0 0] 121)).heap.size))
     gi_wp2_with fail
     refine⟨trivial,callsIn_wide.2 (HWB.out.mono ?_)⟩
     rintro e w5 ⟨rfl,hW5,hB5⟩
     have hs5:b7<w5.heap.size:=by have:=hB5.size;rw[World.size_alloc]at this;omega
     have hB5:Below wr.heap.size wr w5:=((Below.refl _ _).alloc (bJE _) _).trans hB5
     rw[←hb7]at hW5
     change da _ _ _ _ (de (rG true)) _ at hW5
     clear HWB
     have hbc5:=(hB5.cell (p:=⟨b4,0,none⟩) hb4).trans hbc
     gi_wp2_with fail
     rw[←hb7]
    all_goals
     have hE5:bY w w5:=HE.out.trans' hB5 (by omega)
     have hb47:b4<b7:=by omega
     have hg57:g5<b7:=by omega
     have hw7:w.heap.size<b7:=by omega
     have HCL5:Hid (∀j,j<kc->w5.cell? ⟨g5,j,none⟩=some (.int .u32 ((cs.getD j 0:Nat):Int))):=fun j hj=>(hB5.cell (p:=⟨g5,j,none⟩) hl5).trans (HCL.out j hj)
     have hf5:b4<w5.heap.size:=by have:=hB5.size;omega
     have hg5':g5<w5.heap.size:=by have:=hB5.size;omega
     have HW5:=br hW5
     have HE5:=br hE5
     have HB4B:Hid (∀W,Below b7 w5 W->W.cell? ⟨b4,0,none⟩=some (.slice (some ⟨g5,0,none⟩) kc c5)):=fun W h=>(h.cell (p:=⟨b4,0,none⟩) (by show b4<b7;omega)).trans hbc5
     clear HBX HCL HE hbc hneg hW5 hE5 hB5
     clear hb7
     refine⟨trivial,(aLC Fence.wide 4 trivial rfl _ _ _ _).mono ?_⟩
     rintro e w6 ⟨rfl,rfl⟩
     gi_wp2_with fail
     obtain⟨q,hq⟩:∃q,q=w5.heap.size:=⟨_,rfl⟩
     have hE7:bY w5 (w5.alloc (.cells #[.slice (some ⟨g5,0,none⟩) kc c5] 45)):=bY.alloc _ _
     have HI0:Hid (xB b7 q kc (rG ng) (.slice (some ⟨g5,0,none⟩) kc c5) [] (w5.alloc (.cells #[.slice (some ⟨g5,0,none⟩) kc c5] 45))):=
      ⟨by rw[hng];exact(bKQ (rG _)).symm ▸ aHS HW5.out (bY.alloc _ _),hq ▸ Boxed.new w5 45 (.slice (some ⟨g5,0,none⟩) kc c5)⟩
     have hs7:(w5.alloc (.cells #[.slice (some ⟨g5,0,none⟩) kc c5] 45)).heap.size=q+1:=by rw[World.size_alloc,hq]
     have HCL7:Hid (∀j,j<kc->(w5.alloc (.cells #[.slice (some ⟨g5,0,none⟩) kc c5] 45)).cell? ⟨g5,j,none⟩=some (.int .u32 ((cs.getD j 0:Nat):Int))):=fun j hj=>(hE7.cell (p:=⟨g5,j,none⟩) hg5').trans (HCL5.out j hj)
     have HE7:Hid (bY w (w5.alloc (.cells #[.slice (some ⟨g5,0,none⟩) kc c5] 45))):=bY.trans HE5.out hE7
     have HB7:Hid (Below b7 w5 (w5.alloc (.cells #[.slice (some ⟨g5,0,none⟩) kc c5] 45))):=hE7.mono (by omega)
     clear HE5 hE7 HCL5 HW5
     have hbq:b7<q:=by omega
     rw[←hq]
     clear hq hbc5
     generalize w5.alloc (.cells #[.slice (some ⟨g5,0,none⟩) kc c5] 45)=w7 at*
     subst hkc
     refine' wpIn_rangeFunc_ownG rfl (by omega) (gf:=184) (lb:= #[.pointer (some ⟨q,0,none⟩)]) rfl trivial (enters_of func184 (by kernel_rfl) rfl)
      (aLA (K:=1000000000) Fence.wide 4 trivial rfl (by omega) q b7 (some ⟨g5,0,none⟩) c5 cs w7 (by omega) (by omega) HI0.out.2.cell (by omega) HCB.out (fun _=>⟨g5,0,rfl,by omega,fun j hj=>by rw[bKi];exact HCL7.out j hj⟩)) aUk (aUh (by omega) (by omega)) (Below.refl _ _) (fun _=>rfl)
      (fun pre W=>xB b7 q cs.length (rG ng) (.slice (some ⟨g5,0,none⟩) cs.length c5) pre W/\Below b7 w7 W)
      (fun _ _ _=>False)
      (OwnFrom.and (Own.from (xB.own _ _ _ _ _) _) (ownFrom_below (by omega) (by omega)))
      (fun _ _ _ _ _ hs _ _=>hs)
      ⟨HI0.out,Below.refl _ _⟩
      _ ?assign ?body ?done ?stop
     case assign=>
      intro l x W K hK
      gi_wp2
      exact hK
     case body=>
      rintro lp pre x W ⟨HB0,hbel⟩ hpl
      have HBS:=br HB0
      obtain⟨hb0,hbxW⟩:=HB0
      have hc9:=aNQ x.2.2
      have hxw:x.2.1<1000000000:=x.2.2
      have hol:=aRF cs.length (pre.map fun p=>(p.1,p.2.1)) (fun y hy=>by obtain⟨z, -,rfl⟩:=List.mem_map.1 hy;exact z.2.2)
      rw[bKo]at hol
      have hsg:(rG ng).length<=1:=by cases ng<;>decide
      have HF:=br (aVN x.2.1 (by have:=x.2.2;omega) W (hg.ext (HE7.out.trans' hbel (by omega))))
      have hcb:W.cell? ⟨b4,0,none⟩=some (.slice (some ⟨g5,0,none⟩) cs.length c5):=HB4B.out _ (HB7.out.trans hbel)
      have hb7W:b7<=W.heap.size:=by have:=hbel.size;omega
      have HB0:=br hb0
      have hl0:(rG ng++nS cs.length (pre.map fun p=>(p.1,p.2.1))).length<=9000000:=by rw[bJW];omega
      have HNX:=br fun l W'=>xB.next (l:=l) (W':=W') (x:=x) HBS.out hbel (B:=w7.heap.size) (by omega) (by omega)
      have hdl:=ct x.2.1
      clear hb0
      generalize rG ng++nS cs.length (pre.map fun p=>(p.1,p.2.1))=l0 at*
      obtain⟨s,hs⟩:∃s:ByteArray,s=⟨(cm x.2.1).toArray⟩:=⟨_,rfl⟩
      have hss:s.size=cn x.2.1:=by rw[hs];show(cm x.2.1).toArray.size=_;rw[bLi,hdl]
      have HSD:Hid (s.data.toList=cm x.2.1):=by show _=_;rw[hs]
      rw[←hs]at HF
      clear hs hdl
      generalize x.2.1=xw at*
      generalize x.1=xi at*
      rw[←hss]at hc9
      have HSS:=br hss
      clear hss
      gi_wp2_with fail
      refine⟨trivial,CallsIn.inRound lp (callsIn_wide.2 (HF.out.mono ?_))⟩
      rintro e w1 ⟨rfl,hx1⟩
      have HB1:=br (aHS HB0.out hx1)
      have hcb1:=(hx1.cell (p:=⟨b4,0,none⟩) (by show b4<_;omega)).trans hcb
      have hb71:b7<=w1.heap.size:=by have:=hx1.size;omega
      have HW1:Hid (Below b7 W w1):=hx1.mono hb7W
      have HO1:Hid (dc 5 (some b7) W w1):=aMw hx1
      clear HF HB0 hcb hx1 hxw
      by_cases hlo:xi+1<cs.length
      ·have hlo':(xi:Int)<(cs.length:Int)-1:=by omega
       have HR:=br (fun w2=>aW2 (9-s.size) (by omega) w2)
       rw[show(((9-s.size:Nat)):Int)=9-(s.size:Int) by omega]at HR
       gi_wp2_with fail
       refine⟨trivial,CallsIn.inRound lp (callsIn_wide.2 ((HR.out _).mono ?_))⟩
       rintro e w2 ⟨rfl,hx2⟩
       have hb72:b7<=w2.heap.size:=by have:=hx2.size;omega
       obtain⟨s2,hs2⟩:∃s2:ByteArray,s2=⟨(bJL (9-s.size) 48).toArray⟩:=⟨_,rfl⟩
       have HS2:Hid (s2.data.toList=bJL (9-s.size) 48):=by show _=_;rw[hs2]
       have hs29:s2.size<=9:=by rw[hs2];show(bJL (9-s.size) 48).toArray.size<=_;rw[bLi,bKu];omega
       rw[←hs2]
       have HWR:=br (aHL (aHS HB1.out hx2) (s:=s2) (by omega) hb72)
       have HW2:Hid (Below b7 W w2):=HW1.out.trans (hx2.mono hb71)
       have HO2:Hid (dc 5 (some b7) W w2):=HO1.out.trans (aMw hx2)
       clear HR HB1 hcb1 hx2 HW1 HO1 hs2
       gi_wp2_with fail
       refine⟨trivial,CallsIn.inRound lp (callsIn_wide.2 (HWR.out.mono ?_))⟩
       rintro e w3 ⟨rfl,hb3,hw3,ho3⟩
       have hb73:b7<=w3.heap.size:=by have:=hw3.size;omega
       have HWR3:=br (aHL hb3 (s:=s) (by
        have e1:s2.data.toList.length=s2.size:=by rw[bLC];rfl
        rw[bJW]
        omega) hb73)
       have HW3:Hid (Below b7 W w3):=HW2.out.trans hw3
       have HO3:Hid (dc 5 (some b7) W w3):=HO2.out.trans ho3
       clear HWR hb3 hw3 ho3 HW2 HO2
       gi_wp2_with fail
       refine⟨trivial,CallsIn.inRound lp (callsIn_wide.2 (HWR3.out.mono ?_))⟩
       rintro e w4 ⟨rfl,hb4',hw4,ho4⟩
       have HFIN:=br (HNX.out (s2.data.toList++s.data.toList) w4 (by rw[←bKH];exact hb4') (by rw[if_pos hlo,HSD.out,HS2.out,HSS.out]) (HW3.out.trans hw4) (HO3.out.trans ho4))
       clear HWR3 hb4' hw4 ho4
       gi_wp2_with fail
       exact HFIN.out
      ·have hlo':¬((xi:Int)<(cs.length:Int)-1):=by omega
       have HWR3:=br (aHL HB1.out (s:=s) (by omega) hb71)
       clear HB1
       gi_wp2_with fail
       refine⟨trivial,CallsIn.inRound lp (callsIn_wide.2 (HWR3.out.mono ?_))⟩
       rintro e w4 ⟨rfl,hb4',hw4,ho4⟩
       have HFIN:=br (HNX.out s.data.toList w4 hb4' (by rw[if_neg hlo,HSD.out]) (HW1.out.trans hw4) (HO1.out.trans ho4))
       clear HWR3 hb4' hw4 ho4
       gi_wp2_with fail
       exact HFIN.out
     case done=>
      rintro D ys W hD ⟨hy1,hy2⟩ ⟨⟨hb,hbx⟩,hbel⟩ hK
      have hall:=bBb (cs:=cs) (ys:=ys.map fun p=>(p.1,p.2.1)) HCC.out (by intro e;rw[e]at hl0;exact absurd hl0 (by decide)) (by rw[bLs];exact hy1) (by rw[bLs];exact hy2)
      rw[hall,HND.out]at hb
      have hb7W:b7<=W.heap.size:=by have:=hbel.size;omega
      have HSTR:=br (Any.Builder_String_any_k { bOj with } bNs b7 b7 (rG ng++cm a) W hb hb7W)
      have HEW:Hid (bY w W):=HE7.out.trans' hbel (by omega)
      clear hy1 hy2 hb hbx hall
      gi_wp2_with fail
      refine⟨trivial,callsIn_wide.2 (HSTR.out.mono ?_)⟩
      rintro e w8 ⟨rfl,h1,h2,h3⟩
      have hK8:w8.heap[D]? =some (.deferred (some [])):=h3 D _ hK (by intro e;injection e with e;omega) (by intro c fz e;cases e)
      have HE8:Hid (bY w w8):=HEW.out.trans' h2 (by omega)
      clear h1 h2 h3 HSTR hK
      gi_wp2_with fail
      refine⟨by simp,.inl ⟨_,_,rfl,run_takeDeferred hK8, ?_⟩⟩
      refine⟨_,results_tmp rfl _ _ _, ?_,Below.trans HE8.out (belowK_b (w:=w) (bJE _) w8 D _ _ (by omega) hK8 rfl rfl)⟩
      rfl
     case stop=>
      rintro D c pre W _ _ h _
      exact h.elim
   ·have hk0:0<k:=by rw[HK.out,vG hx0];simp
    gi_wp2_with fail
    generalize gk=x at*
    gi_loopg [5,6] k (fun j r i wr2=>∃(ρ:Nat) (zs:List Nat),i= .int .i64 ((j:Int)-1)/\r= .int .u64 (ρ:Int)/\ρ<1000000000/\j<=k/\Hid (oH wr2 (w.heap.size+1) g k cap zs)/\Hid (aBa wr2 b4 v cs)/\Hid ((∀t,t<j->zs.getD t 0=(aO x).getD t 0)/\val ((aO x).drop j)=1000000000*val (zs.drop j)+ρ)/\Hid (Below g w4 wr2))
    case atStart=>exact⟨0,aO x,by first|rfl|simp,rfl,by omega,bJE _,HM,HCR,⟨fun _ _=>rfl,by rw[List.drop_eq_nil_of_le (by rw[HK.out];exact bJE _)];rfl⟩,HBE⟩
    case round=>
     obtain⟨ρ,zs,rfl,rfl,hρ,hj,HM2,HC2,HV,HB2⟩:=hrel
     by_cases hj0:0<gk
     ·obtain⟨t,rfl⟩:∃t,gk=t+1:=⟨gk-1,by omega⟩
      have hi:(((t+1:Nat):Int))-1=(t:Int):=by omega
      rw[hi]
      have g1:=aOU HM2.out.1 HM2.out.2.1 (j:=t) (by omega)
      rw[HV.out.1 t (by omega)]at g1
      have g2:=HM2.out.1.frozenAt t
      have hy:=(cU x).getD t
      have HS:Hid (val ((aO x).drop t)=1000000000*val ((zs.set t (((aO x).getD t 0+4294967296*ρ)/1000000000)).drop t)+((aO x).getD t 0+4294967296*ρ)%1000000000):=aJI (by rw[←HK.out];omega) (by rw[HM2.out.2.1];exact HK.out) HV.out.2
      have HU:Hid (∀q s,s<t->(zs.set t q).getD s 0=(aO x).getD s 0):=fun q s hs=>by
       rw[←HV.out.1 s (by omega),bK0,bK0,List.getElem?_set_ne (by omega)]
      have hqr:(((aO x).getD t 0+4294967296*ρ)/1000000000)<4294967296:=aGD hρ hy
      generalize (aO x).getD t 0=y at*
      clear hi HV HK HM HCR HCS HBE
      gi_wp2_with fail
      have e1:=bJ0 hρ (by omega) hy
      have e2:=bIY hρ (by omega) hy
      simp only[Int.cast_ofNat_Int]at e1 e2
      rw[e1,e2]
      have hr:=bK6 (y+4294967296*ρ) (show 0<1000000000 by omega)
      gi_roundg t
      case measure=>omega
      case rel=>exact⟨_,_,rfl,rfl,hr,by omega,HM2.out.set_ t hqr,HC2.out.far hgl _,⟨fun s hs=>HU.out _ s hs,HS.out⟩,HB2.out.setCell (p:=⟨g,t,none⟩) (bJE _) _⟩
     ·obtain rfl:gk=0:=by omega
      have hval:val (aO x)=1000000000*val zs+ρ:=by have:=HV.out.2;simpa using this
      rw[cO]at hval
      have hq:x/1000000000=val zs:=by omega
      have hr:x%1000000000=ρ:=by omega
      have htl:cJ zs=aO (x/1000000000):=by rw[hq];exact iI HM2.out.2.2
      have HT2:=br (aPp (HM2.out.words hk))
      have HM3:=br HM2.out.trim
      rw[htl]at HT2 HM3
      have HS3:Hid (oT a (x/1000000000) (cs++[ρ])):=by rw[←hr];exact HCS.out.step (by omega)
      have HK3:Hid ((aO (x/1000000000)).length<=5000):=by
       have:=qN zs
       rw[htl,HM2.out.2.1]at this
       show _<=_;omega
      have hx2:x/1000000000<x:=by omega
      have hcl:cs.length<=8:=HCS.out.len (by omega) ha.out
      obtain⟨hbx,hrow⟩:=HC2.out
      have hbc:=hbx.cell
      have hb4:b4<wr.heap.size:=hbx.lt
      obtain⟨i0,hi,hz0,hz1,hz2⟩:=info_parts aQn
      have hro:wr.ownsRow b4 100 1 v cs.length (gZ cs):=hrow
      clear hval hq hr htl HV HK HM HCR HCS HBE
      generalize x/1000000000=x' at*
      generalize hlk:(aO x').length=k' at*
      have HLK:=br hlk
      clear hlk
      gi_wp2_with fail
      refine⟨trivial,callsIn_wide.2 (HT2.out.mono ?_)⟩
      rintro e w5 ⟨rfl,rfl⟩
      gi_wp2_with (gi_at_builtin;refine wpListIn_append_own _ rfl _ _ 45 rfl b4 100 i0 (.int .u32 0) 1 4 underlying45 hi hz0 hz1 hz2 rfl (by decide) _ _ _ rfl (hro.alloc _) ⟨wr.heap.size,0,none⟩ 1 1 [.int .u32 (ρ:Int)] rfl rfl (cell_one_new _ _ _) (by simp [Value.oneCell']) (by unfold maxLen;omega) (by omega) (by simp;omega) ?_;intro v5 w5 hown5 hgr5 _;obtain⟨g5,c5,rfl⟩:=ownsRow_succ hown5;obtain⟨hv1,hv2,hr2,hk2,hb2⟩:=hbx.appended (by decide) hro (by omega) (bJE _) hown5 hgr5;have hc1:=hv1.cell;have hf1:=hv1.frozen;have HM5:=br (HM3.out.kept HC2.out hgl hgr5 (v':= .slice (some ⟨g5,0,none⟩) (cs.length+1) c5)))
      gi_roundg x'
      case measure=>exact hx2
      case rel=>
       refine⟨k',_,cs++[ρ],rfl,HK3.out,HLK.out.symm,HM5,⟨hv2, ?_⟩,HS3,HB2.out.trans (hb2.mono (by omega))⟩
       have:=hr2
       simpa [gZ]using this
end
namespace Ev
section
open Go Go.RowKit
variable {m:Nat}
theorem fZ.max{w:bR3}(h:fZ w):∃m,w.cell? ⟨0,0,none⟩=some (.int .i64 m):=by
 obtain⟨sz,h⟩:=h
 obtain⟨h1,h2⟩:=h (0,⟨[.fn (.yield 1) [] []],false⟩) bKn
 obtain⟨cs,el,I,g2,g3,g4, -⟩:=h2.cells rfl
 obtain⟨fr,g1⟩:=aEY I
 have g3:1<=sz 0:=g3
 have g4:bW _ [.fn (.yield 1) [] []] (cs.toList.take 1):=g4
 generalize o:cs.toList.take 1=l at g4
 cases g4 with
 | cons y _=>
  cases y with
  |anyI z=>
   refine⟨z, ?_⟩
   have h0:(cs.toList.take 1)[0]? =some (.int .i64 z):=by rw[o];rfl
   rw[bMS (by decide)]at h0
   simp only[World.cell?,g1]
   simpa using h0
theorem fZ.errv{w:bR3}(h:fZ w){g:Nat}(d:g=1\/g=2):∃t v,w.cell? ⟨g,0,none⟩=some (.iface t v):=by
 obtain⟨sz,h⟩:=h
 have J:(g,⟨[.fn (.yield 2) [] []],false⟩)∈mO:=by
  rcases d with rfl|rfl
  ·exact bKx _ bKn
  ·exact bKx _ (bKx _ bKn)
 obtain⟨h1,h2⟩:=h _ J
 obtain⟨cs,el,I,g2,g3,g4, -⟩:=h2.cells rfl
 obtain⟨fr,g1⟩:=aEY I
 have g3:1<=sz g:=g3
 have g4:bW _ [.fn (.yield 2) [] []] (cs.toList.take 1):=g4
 generalize o:cs.toList.take 1=l at g4
 cases g4 with
 | cons y _=>
  cases y with
  |anyE t v=>
   refine⟨t,v, ?_⟩
   have h0:(cs.toList.take 1)[0]? =some (.iface t v):=by rw[o];rfl
   rw[bMS (by decide)]at h0
   simp only[World.cell?,g1]
   simpa using h0
def aEe:List TV->Option TV
 | [.str s,.str p]=>some (.tp [.str ⟨(cg s.data.toList p.data.toList).toArray⟩,.b (ce s.data.toList p.data.toList)])
 |_=>none
theorem aZA:aCg PG 29 aEe:=fun w vs ts R E d=>by
 unfold aEe at d
 split at d
 ·next s p=>
  cases d
  cases E with |cons y o=>
  cases o with |cons D hn=>
  cases hn
  cases y
  cases D
  refine(bQw s p w).mono ?_
  rintro e w' ⟨rfl,rfl⟩
  exact⟨_,rfl,Below.refl _ _,.tp (.cons (.str _) (.cons (.b _) .nil))⟩
 ·cases d
def aEl:List TV->Option TV
 | [.str s,.str p]=>if s.size<4294967281 then some (.tp [.str ⟨(cu s.data.toList p.data.toList).1.toArray⟩,.str ⟨(cu s.data.toList p.data.toList).2.1.toArray⟩,.b (cu s.data.toList p.data.toList).2.2])else none
 |_=>none
theorem bBx:aB4 PG 30 aEl:=fun w vs ts R B E d=>by
 unfold aEl at d
 split at d
 ·next s p=>
  split at d
  ·next hs=>
   cases d
   cases E with |cons y o=>
   cases o with |cons D hn=>
   cases hn
   cases y
   cases D
   obtain⟨mx,F⟩:=B.max
   refine(bQv s p mx w hs F).mono ?_
   rintro e w' ⟨rfl,n,rfl⟩
   exact⟨_,rfl,bY.drewN w n,.tp (.cons (.str _) (.cons (.str _) (.cons (.b _) .nil)))⟩
  ·cases d
 ·cases d
def aAX:List TV->Option (List TV)
 | [.str s,.str p]=>if s.size<4294967281/\1<=p.size/\(dg p 0 (dh s p) s).length=dh s p+1 then some ((dg p 0 (dh s p) s).map .str)else none
 |_=>none
theorem aQB{w:bR3}:∀l:List ByteArray,dF w (l.map Value.string) (l.map TV.str)
 | []=> .nil
 |s::l=> .cons (.str s) (aQB l)
theorem aZN:aKX PG 31 aAX:=fun w vs ts L B E d=>by
 unfold aAX at d
 split at d
 ·next s p=>
  split at d
  ·next hs=>
   cases d
   cases E with |cons y o=>
   cases o with |cons D hn=>
   cases hn
   cases y
   cases D
   obtain⟨mx,F⟩:=B.max
   refine⟨9,_,aQB _, ?_⟩
   rw[bKo,hs.2.2]
   exact bQL s p mx w hs.1 F hs.2.1
  ·cases d
 ·cases d
def aCQ:List TV->Option (List ByteArray)
 | []=>some []
 | .str s::l=>(aCQ l).map (s:: ·)
 |_::_=>none
theorem aNI:∀ {l:List TV} {xs:List ByteArray},aCQ l=some xs->l=xs.map .str
 | [],_,h=>by cases h;rfl
 | a::l,xs,h=>by
  unfold aCQ at h
  split at h
  ·next e=>cases e
  ·next s l' e=>
   cases e
   rw[Option.map_eq_some_iff]at h
   obtain⟨ys,h1,rfl⟩:=h
   rw[bKc,aNI h1]
  ·cases h
theorem aPf:∀xs:List ByteArray,aCQ (xs.map .str)=some xs
 | []=>rfl
 |x::xs=>by rw[bKc,aCQ,aPf xs];rfl
def aB1:List TV->Option TV
 | [.im 1 l,.str p]=>(aCQ l).bind fun xs=>if l≠ []/\xs.length<=140737488355328/\(Lib.join (xs.map (·.data.toList)) p.data.toList).length<=140737488355328 then some (.str ⟨(Lib.join (xs.map (·.data.toList)) p.data.toList).toArray⟩)else none
 |_=>none
theorem aYk:aCg PG 36 aB1:=fun w vs ts R E d=>by
 unfold aB1 at d
 split at d
 ·next l p=>
  rw[bJF]at d
  obtain⟨xs,h1,d⟩:=d
  split at d
  ·next hs=>
   cases d
   obtain rfl:=aNI h1
   cases E with |cons y o=>
   cases o with |cons D hn=>
   cases hn
   cases D
   obtain⟨A,c,rfl,hc,G⟩:=aGL (n:=xs.length) (by decide) (by simp) y
   have C:0<xs.length:=by
    rcases xs with _|⟨x,xs⟩
    ·exact absurd rfl hs.1
    ·simp
   obtain⟨b,off,rfl,M,H⟩:=G C
   refine(bQC b off c xs p w (fun j x hx=> ?_) M hs.2.1 hc hs.2.2).mono ?_
   ·obtain⟨u,g1,g2⟩:=H j (.str x) (by rw[bLP,hx];rfl)
    cases g2
    exact g1
   ·rintro e w' ⟨rfl,hx⟩
    exact⟨_,rfl,hx,.str _⟩
  ·cases d
 ·cases d
def aCv:List TV->Option TV
 | [.int .i64 (.ofNat n)]=>if n<100 then some (.str ⟨(cm n).toArray⟩)else none
 |_=>none
theorem aYb:aCg PG 37 aCv:=fun w vs ts R E d=>by
 unfold aCv at d
 split at d
 ·next n=>
  split at d
  ·next hs=>
   cases d
   cases E with |cons y o=>
   cases o
   cases y
   refine(bQm n hs w).mono ?_
   rintro e w' ⟨rfl,rfl⟩
   exact⟨_,rfl,Below.refl _ _,.str _⟩
  ·cases d
 ·cases d
def aKF:Lib.NumEnd Int->List UInt8->TV
 | .ok v,_=> .tp [.int .i64 v,.lit .nilIface]
 | .range,l=> .tp [.int .i64 (Lib.atoiSat l),.err]
 | _,_=> .tp [.int .i64 0,.err]
def aCz:List TV->Option TV
 | [.str s]=>if s.size<=1000000 then some (aKF (cw s.data.toList) s.data.toList)else none
 |_=>none
theorem aW7(w:bR3)(t:bR5)(s:ByteArray):Below w.heap.size w (Lib.bytesWorld w t s):=⟨rfl,rfl,rfl,by rw[Lib.bytesWorld_size];exact Nat.le_succ _,fun k O=>Lib.bytesWorld_at_old w t s k O⟩
theorem aZ0:aB4 PG 33 aCz:=fun w vs ts R B E d=>by
 unfold aCz at d
 split at d
 ·next s=>
  split at d
  ·next hs=>
   cases d
   cases E with |cons y o=>
   cases o
   cases y
   cases K:cw s.data.toList with
   |ok v=>
    refine(bQi s (by omega) v K w).mono ?_
    rintro e w' ⟨rfl,rfl|⟨t,rfl⟩⟩
    ·exact⟨_,rfl,Below.refl _ _,.tp (.cons (.int _ _) (.cons (.lit ⟨fun _ h=>(by cases h),fun _ h=>(by cases h)⟩) .nil))⟩
    ·exact⟨_,rfl,aW7 _ _ _,.tp (.cons (.int _ _) (.cons (.lit ⟨fun _ h=>(by cases h),fun _ h=>(by cases h)⟩) .nil))⟩
   |range=>
    obtain⟨t,v,hc⟩:=B.errv (.inr rfl)
    refine(bQj s (by omega) K _ w hc (.inr ⟨t,v,rfl⟩)).mono ?_
    rintro e w' ⟨N,rfl, -, -,D⟩
    exact⟨_,rfl,D,.tp (.cons (.int _ _) (.cons (.err _ _) .nil))⟩
   |_=>
    obtain⟨t,v,hc⟩:=B.errv (.inl rfl)
    refine(bQk s (by omega) K _ w hc (.inr ⟨t,v,rfl⟩)).mono ?_
    rintro e w' ⟨N,rfl, -, -,D⟩
    exact⟨_,rfl,D,.tp (.cons (.int _ _) (.cons (.err _ _) .nil))⟩
  ·cases d
 ·cases d
def zT:List TV->Option TV
 | [.ag [.b ng,t]]=>(sK t).bind fun xs=>if xs=aO (val xs)/\val xs<2^256 then some (.str ⟨(if val xs=0 then [48]else rG ng++cm (val xs)).toArray⟩)else none
 |_=>none
theorem aZH{w:bR3}{v:bR4}{t:TV}{xs:List Nat}(h:WT w v t)(hx:sK t=some xs)(o:xs.length<=5000):∃A c,v= .slice A xs.length c/\jU w v xs:=by
 obtain⟨W,⟨rfl,rfl⟩|rfl⟩:=aEW hx
 ·obtain⟨A,c,rfl⟩:=aKH h
  exact⟨A,c,rfl,A,c,rfl,Nat.zero_le _,by decide,W,fun h=>absurd h (Nat.lt_irrefl 0)⟩
 ·obtain⟨A,c,rfl,hc,hh⟩:=aGL (n:=xs.length) (by decide) (by simp) h
  refine⟨A,c,rfl,A,c,rfl,hc,by omega,W,fun h0=> ?_⟩
  obtain⟨b,off,e,D,G⟩:=hh h0
  refine⟨b,off,e,D,fun k O=> ?_⟩
  obtain⟨u,g1,g2⟩:=G k (wc (xs.getD k 0)) (by simp [O])
  cases g2
  exact g1
theorem aQ0{Γ:aP}{k:IntKind}:∀ {l:List Nat} {vs:List bR4},bW Γ (l.map (AV.i k)) vs->vs=l.map fun n=>Value.int k ((n:Nat):Int)
 | [],_,h=>by cases h;rfl
 | n::l,_,h=>by
  cases h with
  |cons y o=>
   cases y
   rw[aQ0 o];rfl
theorem bA8{w:bR3}(h:fZ w):GLp w:=by
 obtain⟨sz,h⟩:=h
 obtain⟨q,hq,P,S⟩:∃q,q∈mO/\q.1=3/\q.2=⟨([1,10,100,1000,10000,100000,1000000,10000000,100000000,1000000000,10000000000,100000000000,1000000000000,10000000000000,100000000000000,1000000000000000,10000000000000000,100000000000000000,1000000000000000000,10000000000000000000]:List Nat).map (AV.i .u64),true⟩:=⟨_,bKx _ (bKx _ (bKx _ bKn)),rfl,rfl⟩
 obtain⟨h1,h2⟩:=h q hq
 rw[P,S]at h2
 obtain⟨cs,el,I,g2,g3,g4,T⟩:=h2.cells rfl
 obtain⟨fr,g1⟩:=aEY I
 have T:=T rfl
 rw[bJU (by rw[bLC,g2,T];exact bJE _)]at g4
 have Z:=aQ0 g4
 have K:w.var? PG "internal/strconv.uint64pow10" =some cs:=by
  unfold World.var?
  rw[show PG.globalNamed "internal/strconv.uint64pow10" =some 3 by kernel_rfl]
  simp only[Option.bind_some,g1]
 refine K.trans (congrArg some ?_)
 rw[←cs.toArray_toList,Z]
 exact congrArg List.toArray (by kernel_rfl)
theorem bAg:aB4 PG 35 zT:=fun w vs ts R B E d=>by
 unfold zT at d
 split at d
 ·next ng t=>
  rw[bJF]at d
  obtain⟨xs,hx,d⟩:=d
  split at d
  ·next hs=>
   cases d
   cases E with |cons y o=>
   cases o
   cases y with |ag y=>
   cases y with |cons y o=>
   cases o with |cons D o=>
   cases o
   cases y
   have X:xs.length<=9:=by rw[hs.1];exact lK (bJK hs.2 (by decide))
   obtain⟨A,c,rfl,U⟩:=aZH D hx (by omega)
   rw[hs.1]at U
   rw[←hs.1]at U
   have V:jU w (.slice A xs.length c) (aO (val xs)):=by rw[←hs.1];exact U
   refine(aX7 (ng:=ng) V (by omega) hs.2 (bA8 B)).mono ?_
   rintro e w' ⟨rfl,hx⟩
   exact⟨_,rfl,hx,.str _⟩
  ·cases d
 ·cases d
inductive PT
 |k (g:List TV->Option TV)
 |t (g:List TV->Option TV)
 |r (g:List TV->Option (List TV))
def PT.orc:PT->List TV->Option (TV×Bool)
 | .k g=>oF g
 | .t g=>oF g
 | .r g=>aEk g
def PT.pr:PT->List AV->St->KS->OR
 | .k g=>mK g
 | .t g=>zJ g
 | .r g=>aCC g
def PT.ok(f:FuncId):PT->Prop
 | .k g=>aCg PG f g
 | .t g=>aB4 PG f g
 | .r g=>aKX PG f g
theorem PT.ok_call{f:FuncId}{p:PT}(h:p.ok f):aAR PG f p.pr:=by
 cases p with
 |k g=>exact aPW h
 |t g=>exact aP8 h
 |r g=>exact bFo h
theorem PT.callV{pr:cN}{f:FuncId}{p:PT}(C:pr f=some p.pr){vs:List TV}{R:TV}{own:Bool}(h:p.orc vs=some (R,own)):jT PG pr f vs R own:=by
 cases p with
 |k g=>exact aMi C h
 |t g=>exact aMG C h
 |r g=>exact aYO C h
def uK(f:Nat):List (Nat×PT)->Option PT
 | []=>none
 |q::l=>bif Nat.beq q.1 f then some q.2 else uK f l
theorem aNs{f:Nat}:∀ {l:List (Nat×PT)} {p:PT},uK f l=some p->(f,p)∈l
 | q::l,p,h=>by
  unfold uK at h
  cases D:Nat.beq q.1 f with
  |true=>
   rw[D]at h
   cases h
   obtain rfl:=bJY D
   exact bKn
  |false=>rw[D]at h;exact bKx _ (aNs h)
def yY:List (Nat×PT):=[(29,.k aEe),(30,.t aEl),(31,.r aAX),(36,.k aB1),(37,.k aCv),(33,.t aCz),(35,.t zT),(106,.t yZ)]
theorem aNe{Q:Nat->PT->Prop}(h1:Q 29 (.k aEe))(h2:Q 30 (.t aEl))(h3:Q 31 (.r aAX))(h4:Q 36 (.k aB1))(h5:Q 37 (.k aCv))(h6:Q 33 (.t aCz))(h7:Q 35 (.t zT))(h8:Q 106 (.t yZ)):∀f p,uK f yY=some p->Q f p:=fun f p h=>by
 have J:=aNs h
 unfold yY at J
 simp only[bJZ,Prod.mk.injEq,bLj,or_false]at J
 rcases J with ⟨rfl,rfl⟩|⟨rfl,rfl⟩|⟨rfl,rfl⟩|⟨rfl,rfl⟩|⟨rfl,rfl⟩|⟨rfl,rfl⟩|⟨rfl,rfl⟩|⟨rfl,rfl⟩
 ·exact h1
 ·exact h2
 ·exact h3
 ·exact h4
 ·exact h5
 ·exact h6
 ·exact h7
 ·exact h8
theorem aDv:∀f p,uK f yY=some p->(∃fn,PG.funcs[f]? =some fn/\fn.body≠none)/\bZ f=false/\bZ.prim f=true/\xE f=none/\(∀args,qH f args=none):=
 aNe (Q:=fun f _=>(∃fn,PG.funcs[f]? =some fn/\fn.body≠none)/\bZ f=false/\bZ.prim f=true/\xE f=none/\(∀args,qH f args=none))
  ⟨⟨_,(by kernel_rfl:PG.funcs[29]? =some f29),fun h=>by cases h⟩,by kernel_rfl,by kernel_rfl,rfl,fun _=>rfl⟩
  ⟨⟨_,(by kernel_rfl:PG.funcs[30]? =some f30),fun h=>by cases h⟩,by kernel_rfl,by kernel_rfl,rfl,fun _=>rfl⟩
  ⟨⟨_,(by kernel_rfl:PG.funcs[31]? =some f31),fun h=>by cases h⟩,by kernel_rfl,by kernel_rfl,rfl,fun _=>rfl⟩
  ⟨⟨_,(by kernel_rfl:PG.funcs[36]? =some f36),fun h=>by cases h⟩,by kernel_rfl,by kernel_rfl,rfl,fun _=>rfl⟩
  ⟨⟨_,(by kernel_rfl:PG.funcs[37]? =some f37),fun h=>by cases h⟩,by kernel_rfl,by kernel_rfl,rfl,fun _=>rfl⟩
  ⟨⟨_,(by kernel_rfl:PG.funcs[33]? =some f33),fun h=>by cases h⟩,by kernel_rfl,by kernel_rfl,rfl,fun _=>rfl⟩
  ⟨⟨_,(by kernel_rfl:PG.funcs[35]? =some f35),fun h=>by cases h⟩,by kernel_rfl,by kernel_rfl,rfl,fun _=>rfl⟩
  ⟨⟨_,(by kernel_rfl:PG.funcs[106]? =some f106),fun h=>by cases h⟩,by kernel_rfl,by kernel_rfl,rfl,fun _=>rfl⟩
theorem bFz:∀f p,uK f yY=some p->p.ok f:=aNe (Q:=fun f p=>p.ok f) aZA bBx aZN aYk aYb aZ0 bAg aZ1
def mY:cP:=fun f args=>match uK f yY with |some p=>p.orc args|none=>qH f args
abbrev VZ:Nat->cP:=fY PG bZ mY
def rO:cN:=fun f=>match uK f yY with |some p=>some p.pr|none=>xE f
theorem aSy:lH PG rO:=fun f p h=>by
 unfold rO at h
 split at h
 ·next Y C=>cases h;exact⟨(aDv f Y C).1,PT.ok_call (bFz f Y C)⟩
 ·exact bG6 f p h
theorem yz(n:Nat):nY (VY n) (VZ n):=aJD (fun f args r h=>by
 unfold mY
 split
 ·next p C=>rw[(aDv f p C).2.2.2.2 args]at h;cases h
 ·exact h) (fun f args r h0 h1=>by
 unfold mY at h1
 split at h1
 ·next p C=>exact(aDv f p C).2.2.1
 ·rw[h0]at h1;cases h1) n
theorem bF1:∀f,bZ f=true->rO f=none:=fun f h=>by
 unfold rO
 split
 ·next p C=>rw[(aDv f p C).2.1]at h;cases h
 ·exact bCQ f h
theorem aRd:∀f,rO f≠none->bZ.prim f=true:=fun f h=>by
 unfold rO at h
 split at h
 ·next p C=>exact(aDv f p C).2.2.1
 ·exact bEV f h
theorem aRi{pr:cN}(hu:pr 178=some (mK wG))(hc:pr 130=some (zJ zY))(h1:pr 93=none)(h2:pr 113=none):aCE PG pr qH:=fun f vs R own h=>by
 unfold qH at h
 cases hf:Nat.beq f 130 with
 |false=>rw[hf]at h;exact aKk hu h1 h2 f vs R own h
 |true=>
  rw[hf]at h
  obtain rfl:=bJY hf
  exact aMG hc h
theorem bH2:aCE PG rO mY:=fun f vs R own h=>by
 unfold mY at h
 split at h
 ·next p C=>exact PT.callV (by unfold rO;rw[C]) h
 ·exact aRi (by kernel_rfl) (by kernel_rfl) (by kernel_rfl) (by kernel_rfl) f vs R own h
theorem bIk(n:Nat):mR PG rO (VZ n):=aBV bH2 (fun _ h=>aDx h) bF1 aRd n
theorem aOO{n:Nat}{f:FuncId}{ts:List TV}{R:TV}{own:Bool}(h:VZ n f ts=some (R,own)){w:bR3}(B:fZ w){vs:List bR4}(E:dF w vs ts):
  Calls PG f vs.toArray w fun e w'=>∃v,e= .returned v/\Below w.heap.size w w'/\WT w' v (pY R own):=aHT aKg aSy aK1 (bIk n f ts R own h) B E
theorem aDU{f:FuncId}{args:List TV}{R:TV}(p:PT)(C:uK f yY=some p)(hc:Can args)(hs:bT args<=cL)(h:p.orc args=some (R,false)):CC (VZ (m+1)) f args R:=by
 refine .of hc hs ?_
 show fY PG bZ mY (m+1) _ _=_
 unfold fY
 rw[show mY f args=some (R,false) by unfold mY;rw[C];exact h]
theorem aTo(s p:ByteArray):CC (VZ (m+1)) 29 [.str s,.str p] (.tp [.str ⟨(cg s.data.toList p.data.toList).toArray⟩,.b (ce s.data.toList p.data.toList)]):=
 aDU (.k aEe) rfl (Can.cons (cQ.str _) (Can.cons (cQ.str _) Can.nil)) (by simp only[bT,cV];decide) rfl
end
end Ev
def mA(f:Nat):List Nat->Nat->List Nat×Nat
 | [],c=>([],c)
 |x::xs,c=>((c+x*f)%4294967296::(mA f xs ((c+x*f)/4294967296)).1,(mA f xs ((c+x*f)/4294967296)).2)
theorem aDX(f:Nat):∀(xs:List Nat) (c:Nat),(mA f xs c).1.length=xs.length
 | [],_=>rfl
 |x::xs,c=>by unfold mA;simp only[bJN,aDX f xs]
theorem aQT(f:Nat):∀(xs:List Nat) (c:Nat),bD (mA f xs c).1
 | [],_=>fun _ h=>by cases h
 |x::xs,c=>fun y hy=>by
  unfold mA at hy
  rcases bJZ.1 hy with rfl|hy
  ·exact bK6 _ (by decide)
  ·exact aQT f xs _ y hy
theorem aSo(f:Nat):∀(xs:List Nat) (c:Nat),val (mA f xs c).1+4294967296^xs.length*(mA f xs c).2=val xs*f+c
 | [],c=>by simp [mA,val]
 | x::xs,c=>by
  have ih:=aSo f xs ((c+x*f)/4294967296)
  have l:=bL2 (c+x*f) 4294967296
  simp only[mA,val,bJN,bJX]
  have i:(x+4294967296*val xs)*f=x*f+4294967296*(val xs*f):=by rw[Nat.add_mul,bK1]
  have j:4294967296^xs.length*4294967296*(mA f xs ((c+x*f)/4294967296)).2=4294967296*(4294967296^xs.length*(mA f xs ((c+x*f)/4294967296)).2):=by
   rw[bJR (4294967296^xs.length) 4294967296,bK1]
  rw[i,j]
  omega
theorem aKT{f:Nat}:∀(xs:List Nat) (c:Nat),bD xs->c<f->(mA f xs c).2<f
 | [],_,_,h=>h
 |x::xs,c,a,h=>by
  unfold mA
  refine aKT xs _ (fun y hy=>a y (bKx _ hy)) ?_
  have hx:=a x bKn
  rw[Nat.div_lt_iff_lt_mul (by decide)]
  have h1:x*f<=4294967295*f:=bK8 f (by omega)
  have h2:f*4294967296=4294967295*f+f:=by rw[bJR];omega
  omega
theorem aRI(f:Nat):∀(xs:List Nat) (x c:Nat),mA f (xs++[x]) c=((mA f xs c).1++[((mA f xs c).2+x*f)%4294967296],((mA f xs c).2+x*f)/4294967296)
 | [],x,c=>rfl
 |y::xs,x,c=>by
  simp only[bKm,mA]
  rw[aRI f xs x]
theorem bBN{V f C:Nat}(h:C<f)(hf:f<=4294967296):(mA f (aO V) C).1++(if 0<(mA f (aO V) C).2 then [(mA f (aO V) C).2]else [])=aO (V*f+C):=by
 have g:=aSo f (aO V) C
 have a:=aQT f (aO V) C
 have hn:=aDX f (aO V) C
 have hc:=aKT (aO V) C (cU V) h
 rw[cO]at g
 generalize m:mA f (aO V) C=r at*
 obtain⟨ys,c⟩:=r
 simp only at g a hn hc ⊢
 by_cases h0:0<c
 ·rw[if_pos h0]
  have k:bD (ys++[c]):=fun y hy=>by
   rcases bKy.1 hy with hy|hy
   ·exact a y hy
   ·rw[bKF]at hy;omega
  have e:=iI k
  rw[aLy ys (by omega)]at e
  rw[e,aDb,hn]
  exact congrArg aO (by simp only[val];omega)
 ·rw[if_neg h0,bKQ]
  obtain rfl:c=0:=by omega
  have b:val ys=V*f+C:=by omega
  have e:=iI a
  rw[b]at e
  have d:V<=V*f+C:=by
   have:=Nat.mul_le_mul_left V (show 1<=f by omega)
   omega
  have n:=oX d
  have h1:=qN ys
  rw[e]at h1
  have h2:=nA ys
  rw[e,bJU (by omega)]at h2
  exact h2.symm
namespace Ev
section
variable {m:Nat}
theorem aHc:cW PG 9=none:=by kernel_rfl
theorem aGX:nH PG 9=true:=by kernel_rfl
theorem aTJ{l:List UInt8}:jW PG 9 (.str (bs l))=some (.int .i64 (l.length:Nat)):=by
 simp only[jW]
 rw[if_pos ⟨aHc,aGX⟩,qT]
theorem aRD{et:fP}{l:List UInt8}:bU et .eql (.str (bs l)) (.str ⟨#[]⟩)=some (.b (decide (l=[]))):=by
 simp only[bU]
 rw[vF,show(⟨#[]⟩:ByteArray).toList=([]:List UInt8)from vF []]
 cases l<;>rfl
theorem TS:type_of%(ab @aHc (ab @aGX (ab @aTJ (@aRD)))):=(ab @aHc (ab @aGX (ab @aTJ (@aRD))))
end
end Ev
end Go.Proofs.YtmjoaipkaddkbaaGreatDoor
