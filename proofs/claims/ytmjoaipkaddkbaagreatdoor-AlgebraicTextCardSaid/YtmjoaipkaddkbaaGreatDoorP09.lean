/- Part of a proof. -/
import Derived.Lib.ItoaNum
import Derived.Lib.AppendIntMem
import Derived.Test.YtmjoaipkaddkbaaGreatDoorP07
import Derived.Test.YtmjoaipkaddkbaaGreatDoorP08
import Derived.Lib.SliceRun
import Derived.Deep.AppendLies
import Derived.Maps.AppendAt
import Derived.Shelf.RegionOpen
noncomputable section
open Array renaming getElem?_eq_some_iff→bKi,length_toList→bKM,size_replicate→bLG
open List renaming append_assoc→bKp,append_nil→bK3,cons_append→bJG,eq_nil_of_length_eq_zero→bJA,foldl_cons→bKT,getD_eq_getElem?_getD→bJb,getElem?_eq_getElem→bJM,getElem?_map→bKv,length_append→bJ3,length_cons→bIV,length_map→bJB,length_replicate→bJz,map_cons→bJu,map_map→bKj,mem_append→bJE,mem_cons→bJ4,mem_cons_of_mem→bJY,mem_cons_self→bJS,mem_singleton→bJZ,not_mem_nil→bKf,replicate→bIQ,reverse_reverse→bMv,size_toArray→bKm,take_of_length_le→bJ2
open Nat renaming add_mul→bJp,div_add_mod→bK4,eq_of_beq_eq_true→bJ0,le_refl→bIK,lt_of_lt_of_le→bIP,lt_or_ge→bIT,mod_eq_of_lt→bJo,mod_lt→bJa,mul_assoc→bJ5,mul_comm→bIX,mul_le_mul_right→bJ8,pow_succ→bJ1,strongRecOn→bKw,zero_add→bJl
open Option renaming bind_eq_some_iff→bIL
open Go renaming TypeId→bQb,Value→bQa,World→bQ9
set_option maxRecDepth 10000000
open Go
open Go.Proofs.Tryz
namespace Go.Proofs.YtmjoaipkaddkbaaGreatDoor
section
def yV(d:Nat):UInt8:=UInt8.ofNat (48+d)
def aAU:Nat->Nat->List UInt8
 |0,_=>[]
 |k+1,c=>aAU k (c/10)++[yV (c%10)]
theorem aDj{u:Nat}(h:¬u<10):Lib.decDigits u=Lib.decDigits (u/10)++[yV (u%10)]:=by
 rw[Lib.decDigits,dif_neg h];rfl
theorem sH{u:Nat}(h:u<10):Lib.decDigits u=[yV u]:=Lib.decDigits_one h
theorem aSD:∀(k h c:Nat),0<h->c<10^k->Lib.decDigits (h*10^k+c)=Lib.decDigits h++aAU k c
 |0,h,c,_,hc=>by
  obtain rfl:c=0:=by simpa using hc
  simp [aAU]
 |k+1,h,c,h0,hc=>by
  have j:0<10^k:=Nat.pow_pos (by decide)
  have e:h*10^(k+1)=10*(h*10^k):=by rw[bJ1,←bJ5,bIX]
  have h1:1<=h*10^k:=Nat.mul_pos h0 j
  have g:c/10<10^k:=by rw[bJ1]at hc;omega
  rw[aDj (by omega),show(h*10^(k+1)+c)/10=h*10^k+c/10 by omega,show(h*10^(k+1)+c)%10=c%10 by omega,aSD k h (c/10) h0 g,bKp]
  rfl
theorem aPR:∀(k c:Nat),c<10^(k+1)->aAU (k+1) c=bIQ (k+1-Lib.nDigits c) 48++Lib.decDigits c
 |0,c,hc=>by
  have i:c<10:=by simpa using hc
  rw[Lib.nDigits_small i,sH i]
  simp [aAU,bJo i]
 | k+1,c,hc=>by
  have g:c/10<10^(k+1):=by rw[bJ1]at hc;omega
  rw[aAU,aPR k (c/10) g]
  by_cases h:c<10
  ·rw[Nat.div_eq_of_lt h,Lib.nDigits_small (show 0<10 by decide),Lib.nDigits_small h,sH (show 0<10 by decide),sH h,bJo h,show k+1-1=k by omega,show k+1+1-1=k+1 by omega,List.replicate_succ']
   rfl
  ·rw[Lib.nDigits_big h,aDj h,bKp,show k+1+1-(Lib.nDigits (c/10)+1)=k+1-Lib.nDigits (c/10) by omega]
theorem aDe{d:Nat}(h:d<10):(yV d).toNat=48+d:=by
 unfold yV
 rw[UInt8.toNat_ofNat']
 exact bJo (by omega)
theorem aI8:∀(u:Nat),∀b∈Lib.decDigits u,48<=b.toNat/\b.toNat<=57:=by
 intro u
 induction u using bKw with
 | ind u ih=>
  intro b f
  by_cases h:u<10
  ·rw[sH h,bJZ]at f
   subst f
   rw[aDe h];omega
  ·rw[aDj h,bJE,bJZ]at f
   rcases f with f|rfl
   ·exact ih _ (by omega) b f
   ·rw[aDe (by omega)];omega
def jE(l:List UInt8):Nat:=l.foldl (fun a b=>10*a+(b.toNat-48)) 0
theorem bCa(u:Nat):jE (Lib.decDigits u)=u:=by
 induction u using bKw with
 | ind u ih=>
  by_cases h:u<10
  ·rw[sH h]
   show 10*0+((yV u).toNat-48)=u
   rw[aDe h];omega
  ·have e:=ih (u/10) (by omega)
   unfold jE at e ⊢
   rw[aDj h,List.foldl_append,e]
   show 10*(u/10)+((yV (u%10)).toNat-48)=u
   rw[aDe (by omega)];omega
theorem aDq(u:Nat):Lib.decDigits u≠ []:=by
 intro e
 have h:=Lib.decDigits_length u
 have:=Lib.nDigits_pos u
 rw[e]at h
 simp at h;omega
theorem bBz(u:Nat)(h0:u≠0):(Lib.decDigits u).head? ≠some 48:=by
 induction u using bKw with
 | ind u ih=>
  by_cases h:u<10
  ·rw[sH h]
   intro e
   have m:yV u=48:=Option.some.inj e
   have n:=congrArg UInt8.toNat m
   rw[aDe h]at n
   have:(48:UInt8).toNat=48:=rfl
   omega
  ·rw[aDj h,List.head?_append]
   cases q:(Lib.decDigits (u/10)).head? with
   |none=>exact absurd (List.head?_eq_none_iff.1 q) (aDq _)
   |some b=>
    have:=ih (u/10) (by omega) (by omega)
    rw[q]at this
    exact this
theorem aHT:∀(b:List UInt8) (a:Nat),b.foldl (fun a b=>10*a+(b.toNat-48)) a=a*10^b.length+jE b
 | [],a=>by simp [jE]
 | x::b,a=>by
  unfold jE
  rw[bKT,bKT,aHT b,aHT b (10*0+(x.toNat-48)),bIV,bJ1]
  have e:(10*a+(x.toNat-48))*10^b.length=a*(10^b.length*10)+(x.toNat-48)*10^b.length:=by
   rw[bJp,bIX 10 a,bJ5,bIX 10 (10^b.length)]
  have n:(10*0+(x.toNat-48))*10^b.length=(x.toNat-48)*10^b.length:=by rw[Nat.mul_zero,bJl]
  rw[e,n]
  omega
theorem aHt(a b:List UInt8):jE (a++b)=jE a*10^b.length+jE b:=by
 show(a++b).foldl _ 0=_
 rw[List.foldl_append,aHT b];rfl
theorem aYc(a:List UInt8)(x:UInt8):jE (a++[x])=10*jE a+(x.toNat-48):=by
 rw[aHt]
 show jE a*10^1+(10*0+(x.toNat-48))=_
 omega
theorem aD7:∀(l:List UInt8),(∀b∈l,b.toNat<=57)->jE l<10^l.length
 | [],_=>by decide
 |x::l,h=>by
  have e:=aHt [x] l
  have ih:=aD7 l (fun b f=>h b (bJY _ f))
  have hx:=h x bJS
  rw[List.singleton_append]at e
  rw[e,bIV,bJ1]
  have m:jE [x]=x.toNat-48:=by show 10*0+(x.toNat-48)=_;omega
  have h1:(x.toNat-48)*10^l.length<=9*10^l.length:=bJ8 _ (by omega)
  rw[m]
  omega
def vC:List Nat->List UInt8
 | []=>[]
 | [c]=>Lib.decDigits c
 |c::d::cs=>vC (d::cs)++aAU 9 c
def mS:List Nat->Nat
 | []=>0
 |c::cs=>c+1000000000*mS cs
theorem aMq:∀(cs:List Nat),(∀c∈cs,c<1000000000)->(∀h:cs≠ [],cs.getLast h≠0)->cs≠ []->vC cs=Lib.decDigits (mS cs)/\0<mS cs
 | [],_,_,h=>absurd rfl h
 | [c],_,o,h=>⟨by simp [vC,mS],by
   have:=o h
   simp [mS]at this ⊢;omega⟩
 | c::d::cs,hc,o,h=>by
  obtain⟨e,j⟩:=aMq (d::cs) (fun x hx=>hc x (bJY _ hx)) (fun h'=>by have:=o h;rwa [List.getLast_cons h']at this) (by simp)
  have p:=hc c bJS
  constructor
  ·rw[vC,e]
   refine(aSD 9 (mS (d::cs)) c j p).symm.trans (congrArg Lib.decDigits ?_)
   show mS (d::cs)*1000000000+c=c+1000000000*mS (d::cs)
   omega
  ·rw[mS];omega
end
section
theorem aHX(c:Nat):∀cs:List Nat,mS (cs++[c])=c*1000000000^cs.length+mS cs
 | []=>by simp [mS]
 |d::cs=>by
  rw[bJG,mS,aHX c cs,mS,bIV,bJ1,←bJ5]
  omega
def oL(a x:Nat)(cs:List Nat):Prop:=(∀c∈cs,c<1000000000)/\a=x*1000000000^cs.length+mS cs/\(x=0->∃l t,cs=l++[t]/\t≠0)
theorem oL.start{a:Nat}(h:0<a):oL a a []:=⟨fun _ h=>(by cases h),by simp [mS],fun h0=>by omega⟩
theorem oL.step{a x:Nat}{cs:List Nat}(h:oL a x cs)(hx:0<x):oL a (x/1000000000) (cs++[x%1000000000]):=by
 obtain⟨h1,h2, -⟩:=h
 refine⟨fun c hc=> ?_, ?_,fun h0=>⟨cs,_,rfl,by omega⟩⟩
 ·rcases bJE.1 hc with hc|hc
  ·exact h1 c hc
  ·rw[bJZ.1 hc];exact bJa _ (by decide)
 ·rw[h2,aHX,bJ3,List.length_singleton,bJ1,←Nat.add_assoc,bIX _ 1000000000,←bJ5,←bJp]
  congr 2
  have:=bK4 x 1000000000
  omega
theorem oL.len{a x:Nat}{cs:List Nat}(h:oL a x cs)(h0:0<x)(f:a<2^240):cs.length<=8:=by
 obtain⟨-,h2, -⟩:=h
 rcases bIT 8 cs.length with h|h
 ·exfalso
  have b:1000000000^9<=1000000000^cs.length:=Nat.pow_le_pow_right (by decide) h
  have o:1*1000000000^cs.length<=x*1000000000^cs.length:=bJ8 _ h0
  have q:(2:Nat)^240<1000000000^9:=by decide
  omega
 ·exact h
theorem oL.fin{a:Nat}{cs:List Nat}(h:oL a 0 cs)(f:a<2^240):cs.length<=9/\0<cs.length/\vC cs=Lib.decDigits a:=by
 obtain⟨h1,h2,b⟩:=h
 obtain⟨l,t,rfl,j⟩:=b rfl
 rw[Nat.zero_mul,bJl]at h2
 have hc:=(aMq (l++[t]) h1 (fun h=>by rw[List.getLast_concat];exact j) (by simp)).1
 rw[←h2]at hc
 refine⟨?_,by simp,hc⟩
 have m:oL a t l:=⟨fun c hc=>h1 c (List.mem_append_left _ hc),by rw[h2,aHX],fun h0=>absurd h0 j⟩
 have:=m.len (by omega) f
 rw[bJ3,List.length_singleton];omega
def nM(k:Nat)(ys:List (Nat×Nat)):List UInt8:=ys.flatMap fun p=>if p.1+1<k then bIQ (9-Lib.nDigits p.2) 48++Lib.decDigits p.2 else Lib.decDigits p.2
theorem aN5(k:Nat)(ys:List (Nat×Nat))(y:Nat×Nat):nM k (ys++[y])=nM k ys++if y.1+1<k then bIQ (9-Lib.nDigits y.2) 48++Lib.decDigits y.2 else Lib.decDigits y.2:=by
 simp [nM]
theorem aMR{u:Nat}(h:u<1000000000):Lib.nDigits u<=9:=by
 have s:∀(k u:Nat),u<10^(k+1)->Lib.nDigits u<=k+1:=by
  intro k
  induction k with
  |zero=>intro u h;rw[Lib.nDigits_small (by omega)];omega
  | succ k ih=>
   intro u h
   by_cases h1:u<10
   ·rw[Lib.nDigits_small h1];omega
   ·rw[Lib.nDigits_big h1]
    have:=ih (u/10) (by rw[bJ1]at h;omega)
    omega
 exact s 8 u h
theorem aPs(k:Nat):∀ys:List (Nat×Nat),(∀y∈ys,y.2<1000000000)->(nM k ys).length<=9*ys.length
 | [],_=>by simp [nM]
 |y::ys,h=>by
  have h1:=aPs k ys fun z n=>h z (bJY _ n)
  have h2:=aMR (h y bJS)
  have b:=Lib.decDigits_length y.2
  have e:nM k (y::ys)=(if y.1+1<k then bIQ (9-Lib.nDigits y.2) 48++Lib.decDigits y.2 else Lib.decDigits y.2)++nM k ys:=by simp [nM]
  rw[e,bJ3,bIV]
  split
  ·rw[bJ3,bJz];omega
  ·omega
theorem aM2:∀(cs:List Nat) (i:Nat),(∀c∈cs,c<1000000000)->cs≠ []->nM (i+cs.length) ((List.range' i cs.length).zip cs).reverse=vC cs
 | [],_,_,h=>absurd rfl h
 | [c],i,_,_=>by
  simp [nM,vC,List.range'_succ]
 |c::d::cs,i,h,_=>by
  have ih:=aM2 (d::cs) (i+1) (fun x hx=>h x (bJY _ hx)) (by simp)
  rw[show i+(c::d::cs).length=i+1+(d::cs).length by simp only[bIV];omega,show(c::d::cs).length=(d::cs).length+1 from rfl,List.range'_succ,List.zip_cons_cons,List.reverse_cons,aN5,ih,vC]
  rw[if_pos (by simp only[bIV];omega),aPR 8 c (h c bJS)]
theorem aZg{cs:List Nat}{ys:List (Nat×Nat)}(hc:∀c∈cs,c<1000000000)(h0:cs≠ [])(h1:ys.map (fun p=>p.2)=cs.reverse)(h2:ys.map (fun p=>p.1)=(List.range cs.length).reverse):nM cs.length ys=vC cs:=by
 have e:∀l:List (Nat×Nat),l=(l.map (fun p=>p.1)).zip (l.map (fun p=>p.2)):=by
  intro l
  induction l with
  |nil=>rfl
  |cons a l ih=>rw[bJu,bJu,List.zip_cons_cons,←ih]
 have b:=aM2 cs 0 hc h0
 rw[bJl]at b
 rw[←b]
 congr 1
 have g1:=congrArg List.reverse h1
 have g2:=congrArg List.reverse h2
 rw[bMv,←List.map_reverse]at g1 g2
 have g:=e ys.reverse
 rw[g1,g2]at g
 rw[←List.range_eq_range',←g,bMv]
end
section
open Go Go.RowKit Go.Shelf Go.Sort
def GLp(w:bQ9):Prop:=Lib.TabIs prog w "internal/strconv.uint64pow10" .u64 Lib.pow10Tab
theorem GLp.ext{w w':bQ9}(h:GLp w)(hx:bE w w'):GLp w':=Lib.tabBelow_of_tabIs h w' hx
set_option maxHeartbeats 6400000 in
set_option maxRecDepth 100000 in
theorem aUM(u:Nat)(hu:u<4294967296)(w:bQ9)(hg:GLp w):
  Calls prog 185 #[.int .u64 (u:Int),.int .i64 10] w fun e w'=>e= .returned (.string ⟨(Lib.decDigits u).toArray⟩)/\bE w w':=by
 by_cases hs:u<100
 ·have HSM:=Lib.hid (fun w1=>Any.internal_strconv_small bOx u hs w1)
  go_enter func185,ntmps185
  go_wp2_with fail
  refine(HSM.out _).mono ?_
  rintro e w1 ⟨rfl,rfl⟩
  go_wp2_with fail
  go_ret
  exact⟨rfl,bE.refl _⟩
 ·have hu1:1<=u:=by omega
  have hu64:u<18446744073709551616:=by omega
  have hnd20:Lib.nDigits u<=20:=by have:=Lib.numDigits_eq u hu1 hu64;split at this<;>omega
  have hal:(prog).arrayLen 232=24:=by kernel_rfl
  have hel:(prog).elem 232=5:=by kernel_rfl
  have hsl1:∀W,(Instr.sliceAt 232 (.pointer (some ⟨w.heap.size,0,none⟩)) none (some (.int .i64 (Lib.nDigits u:Int))) none).run prog W= .ok (.slice (some ⟨w.heap.size,0,none⟩) (Lib.nDigits u) 24) W:=fun W=>by
   rw[run_sliceAt_array_h W 232 ⟨w.heap.size,0,none⟩ (by rw[hal,hel];exact underlying232) .i64 (Lib.nDigits u:Int) (by omega) (by rw[hal];omega),hel,hal]
   go_simp
  have hH0:=Lib.holds_zero0 w 232 (Lib.nDigits u) (by omega)
  have hfmt:=Any.internal_strconv_formatBase10 bOz w.heap.size 0 24 u (Array.replicate (Lib.nDigits u) 0) (w.alloc (.cells Lib.zeros24 232)) hH0 (by rw[bLG];exact Lib.lt_pow_nDigits u) hu64 (by rw[bLG];omega)
  rw[bLG]at hfmt
  have hnum:=fun w1 (hx:bE w w1)=>Any.internal_strconv_numDigits bPh u hu1 hu64 w1 (hg.ext hx)
  have HNUM:=Lib.hid hnum
  have HFMT:=Lib.hid hfmt
  have HH0:=Lib.hid hH0
  clear hH0 hal hel hfmt hnum
  go_enter func185,ntmps185
  go_wp2_with fail
  refine(HNUM.out _ (bE.alloc _ _)).mono ?_
  rintro e w1 ⟨rfl,rfl⟩
  go_wp2_with fail
  refine HFMT.out.mono ?_
  rintro e w1 ⟨rfl,k,v',dk,rfl,hF⟩
  have hcv:(convert 119 9 (.slice (some ⟨w.heap.size,0,none⟩) (Lib.nDigits u) 24)).run prog ((putRow (fun(b:UInt8)=>Value.int .u8 (b.toNat:Int)) (w.alloc (.cells Lib.zeros24 232)) w.heap.size 0 dk).drewN k)= .ok (.string ⟨(Lib.decDigits u).toArray⟩) ((putRow (fun(b:UInt8)=>Value.int .u8 (b.toNat:Int)) (w.alloc (.cells Lib.zeros24 232)) w.heap.size 0 dk).drewN k):=by
   have h:=run_convert_bytes_back (P:=prog) ((putRow (fun(b:UInt8)=>Value.int .u8 (b.toNat:Int)) (w.alloc (.cells Lib.zeros24 232)) w.heap.size 0 dk).drewN k) 119 9 5 ⟨w.heap.size,0,none⟩ 24 (Lib.decDigits u) underlying119 underlying5 underlying9 (fun j hj=>by
    rw[Lib.row_is_numeral hF j hj,Lib.add_plain,World.cell?_drewN]
    exact cell?_putRow (fun(b:UInt8)=>Value.int .u8 (b.toNat:Int)) _ w.heap.size 0 _ dk HH0.out (by rw[hF.size,bLG]) j (by rw[hF.size];rw[Lib.decDigits_length]at hj;exact hj))
   rw[Lib.decDigits_length]at h
   exact h
  have HFIN:Hid (bE w ((putRow (fun(b:UInt8)=>Value.int .u8 (b.toNat:Int)) (w.alloc (.cells Lib.zeros24 232)) w.heap.size 0 dk).drewN k)):=by
   obtain⟨os,eo⟩:=Lib.fin_at w (.cells Lib.zeros24 232) dk k 0
   rw[eo]
   exact Lib.below_grow _ _ (bIK _) _ _
  generalize (putRow (fun(b:UInt8)=>Value.int .u8 (b.toNat:Int)) (w.alloc (.cells Lib.zeros24 232)) w.heap.size 0 dk).drewN k=W1 at*
  go_wp2_with fail
  go_ret
  exact⟨rfl,HFIN.out⟩
set_option maxRecDepth 100000 in
theorem aUS(u:Nat)(hu:u<4294967296)(w:bQ9)(hg:GLp w):
  Calls prog 97 #[.int .u64 (u:Int),.int .i64 10] w fun e w'=>e= .returned (.string ⟨(Lib.decDigits u).toArray⟩)/\bE w w':=by
 have H:=Lib.hid (aUM u hu w hg)
 go_enter func97,ntmps97
 go_wp2_with fail
 refine H.out.mono ?_
 rintro e w1 ⟨rfl,hx⟩
 go_wp2_with fail
 go_ret
 exact⟨rfl,hx⟩
theorem aTq:∀k,Lib.repeatL [(48:UInt8)] k=bIQ k 48
 |0=>rfl
 |k+1=>by
  have:=aTq k
  simp_all [Lib.repeatL,List.replicate_succ]
theorem aV2(k:Nat)(hk:k<=1000)(w:bQ9):
  Calls prog 99 #[.string ⟨#[48]⟩,.int .i64 (k:Int)] w fun e w'=>e= .returned (.string ⟨(bIQ k 48).toArray⟩)/\bE w w':=by
 match k,hk with
 |0,_=>
  refine(Any.strings_Repeat_zero bNp _ w).mono ?_
  rintro e w1 ⟨rfl,rfl⟩
  exact⟨rfl,bE.refl _⟩
 |1,_=>
  refine(Any.strings_Repeat_one bNp _ w).mono ?_
  rintro e w1 ⟨rfl,rfl⟩
  exact⟨rfl,bE.refl _⟩
 |k+2,hk=>
  refine(Any.strings_Repeat_main bNp bMy ⟨#[48]⟩ (k+2) w (by omega) (by omega) (by show 1*(k+2)<=_;omega) (by decide)).mono ?_
  rintro e w1 ⟨rfl,hx⟩
  refine⟨?_,hx⟩
  rw[show Lib.repeatL (⟨#[48]⟩:ByteArray).data.toList (k+2)=bIQ (k+2) 48 from aTq (k+2)]
end
section
open Go Go.RowKit Go.Shelf
attribute [local go_sem] Oper.semAt_some
def aRe:bQa->Nat| .slice _ n _=>n|_=>0
theorem aJf:(prog.info? 100).map (fun i=>(i.zero,i.size,i.bytes))=some (some (.int .u32 0),1,4):=by kernel_rfl
theorem bIl{ρ x n:Nat}(hρ:ρ<n)(hn:n<4294967296)(hx:x<4294967296):
  IntKind.u64.wrap ((bits .or .u64 ((ρ:Int)*4294967296) (x:Int)).tdiv (n:Int))%4294967296=(((x+4294967296*ρ)/n:Nat):Int):=by
 have h:=aGg hρ hx
 rw[aHO _ _ (by omega) hx,←Int.ofNat_tdiv,IntKind.wrap_u64]
 generalize (x+4294967296*ρ)/n=q at*
 omega
theorem bIA{ρ x n:Nat}(hρ:ρ<n)(hn:n<4294967296)(hx:x<4294967296):
  (bits .or .u64 ((ρ:Int)*4294967296) (x:Int)).tmod (n:Int)=(((x+4294967296*ρ)%n:Nat):Int):=by
 rw[aHO _ _ (by omega) hx,←Int.ofNat_tmod]
def aCh(w:bQ9)(g:Nat)(s:Bool)(u:bQa):Prop:=w.cell? ⟨g,0,none⟩=some (.bool s)/\w.cell? ⟨g,1,none⟩=some u/\w.frozen? ⟨g,0,none⟩=false/\w.frozen? ⟨g,1,none⟩=false/\g<w.heap.size/\aAB w g
theorem aCh.ext{w w':bQ9}{g:Nat}{s:Bool}{u:bQa}(h:aCh w g s u)(hx:bE w w'):aCh w' g s u:=by
 obtain⟨h0,h1,h2,h3,h4,h5⟩:=h
 exact⟨(hx.cell (p:=⟨g,0,none⟩) h4).trans h0,(hx.cell (p:=⟨g,1,none⟩) h4).trans h1,(Below.frozen hx (p:=⟨g,0,none⟩) h4).trans h2,(Below.frozen hx (p:=⟨g,1,none⟩) h4).trans h3,bIP h4 hx.size,h5.ext h4 hx⟩
theorem aCh.new(w:bQ9)(s:Bool)(u:bQa)(T:bQb)(hu:∀n,u≠ .int .u32 n):aCh (w.alloc (.cells #[.bool s,u] T)) w.heap.size s u:=by
 refine⟨by simp [go_sem],by simp [go_sem],by simp [go_sem],by simp [go_sem],by simp,aAB.new _ _ _ ?_⟩
 intro x hx n
 simp only[List.mem_toArray,bJ4,bKf,or_false]at hx
 rcases hx with rfl|rfl
 ·simp
 ·exact hu n
set_option maxHeartbeats 400000 in
theorem aON{A:Option Addr}{n c:Nat}{xs:List Nat}{w:bQ9}(h:jS w (.slice A n c) xs):
  Calls prog 94 #[.slice A n c] w fun e w'=>e= .returned (.slice A (cG xs).length c)/\w=w':=by
 obtain⟨A',c',hv,hl,hm,hL,hc⟩:=h
 obtain⟨rfl,rfl,rfl⟩:A=A'/\n=xs.length/\c=c':=by injection hv with h1 h2 h3;exact⟨h1,h2,h3⟩
 clear hv
 go_enter func94,ntmps94
 go_wp2
 go_loop [0] (fun m=>∃n:Nat,n<=xs.length/\m= .slice A n c/\Hid (cG (xs.take n)=cG xs)) (fun m=>aRe m)
 case atStart=>exact⟨xs.length,bIK _,rfl,by rw[List.take_length];rfl⟩
 case round=>
  obtain⟨n,hn,rfl,HT⟩:=hrel
  by_cases h0:0<n
  ·obtain⟨b,off,rfl,hb,hcell⟩:=hc (by omega)
   obtain⟨k,rfl⟩:∃k,n=k+1:=⟨n-1,by omega⟩
   have hk:=hcell k (by omega)
   have hxk:=hL.getD k
   clear hc hcell
   have H0:Hid (xs.getD k 0=0->cG (xs.take k)=cG xs):=fun h=>(wU (by omega) h).symm.trans HT
   have H1:Hid (xs.getD k 0≠0->(cG xs).length=k+1):=fun h=>HT ▸ wW (by omega) h
   generalize xs.getD k 0=x at*
   by_cases hz:x=0
   ·subst hz
    go_wp2
    go_round
    case rel=>exact⟨k,by omega,by simp,H0.out rfl⟩
    case measure=>simp [aRe]
   ·have hz':((x:Int)==0)=false:=by simp;omega
    go_wp2
    go_ret
    exact⟨by rw[H1.out hz];rfl,rfl⟩
  ·obtain rfl:n=0:=by omega
   go_wp2
   go_ret
   exact⟨by rw[←HT.out];rfl,rfl⟩
theorem aUY{w:bQ9}{base:Nat}{v:bQa}{l:List Nat}(h:w.ownsRow base 100 1 v l.length (gR l))(hL:bC l)(hl:l.length<=35184372088832):jS w v l:=by
 rcases h.2 with ⟨rfl,hn⟩|⟨g,cap,cQ,rfl,hb,hg,hcap,hcm,hcs,htk⟩
 ·obtain rfl:=bJA hn
  exact jS.nil _
 ·refine⟨some ⟨g,0,none⟩,cap,rfl,hcap,hl,hL,fun _=>⟨g,0,rfl,(bKi.1 hg).1,fun k hk=> ?_⟩⟩
  have h6:(gR l)[k]? =some (.int .u32 ((l.getD k 0:Nat):Int)):=by unfold gR;rw[bKv,bJM hk,bJb,bJM hk];rfl
  rw[←htk,List.getElem?_take]at h6
  split at h6
  ·rw[cell_of_row w g _ cQ _ _ hg,bJl]
   simpa using h6
  ·cases h6
set_option maxRecDepth 100000 in
set_option maxHeartbeats 800000 in
theorem aUV{A:Option Addr}{n c:Nat}{xs:List Nat}{w:bQ9}(h:jS w (.slice A n c) xs):
  Calls prog 93 #[.slice A n c] w (Ret w fun v w'=>w'.ownsRow w.heap.size 100 1 v xs.length (gR xs)):=by
 obtain⟨rfl,hl,hm⟩:=h.len
 have hL:=h.limb
 have qn:∀(w:bQ9) (a:Option Addr) (n c n' c':Nat),(binOp .eql 45 (.slice a n c) (.slice none n' c')).run prog w= .ok (.bool a.isNone) w:=fun w a n c n' c'=>Lib.run_eql_slice_nil w _ _ a n c n' c' underlying45
 cases A with
 | none=>
  have hn:xs=[]:=by
   by_cases h0:0<xs.length
   ·obtain⟨b,off,e,_⟩:=h.at_ h0;cases e
   ·exact bJA (by omega)
  subst hn
  go_enter func93,ntmps93
  go_wp2_with fail
  go_ret
  exact⟨_,rfl,World.ownsRow_nil _ _ _ _,(by repeat (first|exact bE.refl _|assumption|refine bE.pdrewN ?_ _|refine bE.pdrew ?_|refine bE.palloc ?_ _|refine bE.pset ?_ (by simp<;>omega) _|refine bE.trans ?_ (by assumption)))⟩
 | some a=>
  have hnews:∀j u,(gR xs)[j]? =some u->w.cell? (a.add j)=some u:=by
   intro j u hj
   obtain⟨hjl,hju⟩:=List.getElem?_eq_some_iff.1 hj
   simp [gR]at hjl
   obtain⟨b,off,e1,hb, -,hcell⟩:=h.at_ hjl
   injection e1 with e1
   subst e1
   have:=hcell j hjl
   rw[Addr.add_lit,this,←hju]
   simp [gR,bJM hjl]
  have HN:=Lib.hid hnews
  have hown:(w.alloc (.cells #[] 100)).ownsRow w.heap.size 100 1 (.slice (some ⟨w.heap.size,0,none⟩) 0 0) 0 []:=
   ⟨rfl,.inr ⟨w.heap.size,0, #[],rfl,bIK _,by rw[heap_alloc_new],bIK _,Nat.zero_le _,rfl,rfl⟩⟩
  have HO:=Lib.hid hown
  have HL:=Lib.hid (And.intro hm hL)
  have HW:Hid ((gR xs).length=xs.length*1):=by show _=_;simp [gR]
  have HU:Hid (∀u∈gR xs,u.oneCell'=true):=(by intro u hu;simp [gR]at hu;obtain⟨x,_,rfl⟩:=hu;rfl)
  clear h hnews hown hm hL
  generalize gR xs=ws at*
  generalize xs.length=n at*
  obtain⟨i0,hi,hz0,hz1,hz2⟩:=info_parts aJf
  go_enter func93,ntmps93
  go_wp2_with (at_builtin;refine wpList_append_own _ rfl _ _ 45 rfl w.heap.size 100 i0 (.int .u32 0) 1 4 underlying45 hi hz0 hz1 hz2 rfl (by decide) _ 0 [] rfl HO.out a n c ws rfl HW.out ?c1 ?c2 (by have:=HL.out.1;unfold maxLen;omega) (by have:=HL.out.1;omega) (by simp) ?_)
  case c1=>
   intro j u hj
   exact Lib.cell?_alloc_some _ (HN.out j u hj)
  case c2=>exact HU.out
  intro v' w' h1 h2 _
  have HF:=Lib.hid h1
  obtain⟨A',c',rfl⟩:∃A c,v'= .slice A n c:=by
   rcases h1.2 with ⟨h1,h2⟩|⟨g,cap,cQ,h1, -⟩
   ·exact⟨none,0,by rw[h1,h2]⟩
   ·exact⟨_,_,h1⟩
  go_wp2_with fail
  go_ret
  exact⟨_,rfl,by simpa using HF.out,(Below.refl _ _).alloc (bIK _) _ |>.grown h2 (by simp) (fun k e=>by cases e;simp)⟩
theorem bAd{w:bQ9}{B g n c:Nat}{xs:List Nat}(h:w.ownsRow B 100 1 (.slice (some ⟨g,0,none⟩) n c) n (gR xs)){k:Nat}(hk:k<=n):w.ownsRow B 100 1 (.slice (some ⟨g,0,none⟩) k c) k (gR (xs.take k)):=by
 obtain⟨h1,h2⟩:=h
 rcases h2 with ⟨h2, -⟩|⟨g',cap,cQ,h2,hb,hg,hn,hc,hs,ht⟩
 ·cases h2
 ·obtain⟨rfl,rfl⟩:g=g'/\c=cap:=by injection h2 with e1 _ e3;injection e1 with e1;injection e1 with e1;exact⟨e1,e3⟩
  refine⟨?_,.inr ⟨g,c,cQ,rfl,hb,hg,by omega,hc,hs, ?_⟩⟩
  ·simp [gR]at h1 ⊢;omega
  ·have:cQ.toList.take (k*1)=(cQ.toList.take (n*1)).take k:=by rw[List.take_take];congr 1;omega
   rw[this,ht]
   simp [gR,List.map_take]
theorem bDD{w:bQ9}{B g n c:Nat}{xs:List Nat}(h:w.ownsRow B 100 1 (.slice (some ⟨g,0,none⟩) n c) n (gR xs))(j x:Nat):(w.setCell ⟨g,j,none⟩ (.int .u32 (x:Int))).ownsRow B 100 1 (.slice (some ⟨g,0,none⟩) n c) n (gR (xs.set j x)):=by
 have:=(h.stored j (.int .u32 (x:Int))).1
 rwa [show(gR xs).set j (.int .u32 (x:Int))=gR (xs.set j x) by simp [gR,List.map_set]]at this
theorem aP3{w:bQ9}{B g n c:Nat}{xs:List Nat}(h:w.ownsRow B 100 1 (.slice (some ⟨g,0,none⟩) n c) n (gR xs))(hx:xs.length=n){j:Nat}(hj:j<n):w.cell? ⟨g,j,none⟩=some (.int .u32 ((xs.getD j 0:Nat):Int)):=by
 rw[h.cellAt j (by omega)]
 unfold gR
 rw[bKv,bJM (by omega),bJb,bJM (by omega)]
 rfl
def nY(w:bQ9)(B g n c:Nat)(zs:List Nat):Prop:=w.ownsRow B 100 1 (.slice (some ⟨g,0,none⟩) n c) n (gR zs)/\zs.length=n/\bC zs
def aAT(w:bQ9)(b:Nat)(v:bQa)(cs:List Nat):Prop:=Boxed w b 45 v/\w.ownsRow b 100 1 v cs.length (gR cs)
theorem nY.set_{w:bQ9}{B g n c:Nat}{zs:List Nat}(h:nY w B g n c zs)(j:Nat){x:Nat}(hx:x<4294967296):nY (w.setCell ⟨g,j,none⟩ (.int .u32 (x:Int))) B g n c (zs.set j x):=
 ⟨bDD h.1 j x,by simp [h.2.1],jO h.2.2 hx⟩
theorem nY.words{w:bQ9}{B g n c:Nat}{zs:List Nat}(h:nY w B g n c zs)(hn:n<=5000):jS w (.slice (some ⟨g,0,none⟩) n c) zs:=by
 obtain⟨h1,h2,h3⟩:=h
 subst h2
 exact aUY h1 h3 (by omega)
theorem nY.trim{w:bQ9}{B g n c:Nat}{zs:List Nat}(h:nY w B g n c zs):nY w B g (cG zs).length c (cG zs):=by
 have h1:=bAd h.1 (k:=(cG zs).length) (by rw[←h.2.1];exact qC zs)
 rw[←mW]at h1
 exact⟨h1,rfl,aLM h.2.2⟩
theorem aAT.far{w:bQ9}{b:Nat}{v:bQa}{cs:List Nat}(h:aAT w b v cs){g j:Nat}(hg:g<b)(u:bQa):aAT (w.setCell ⟨g,j,none⟩ u) b v cs:=by
 have hgr:w.grownBy (w.setCell ⟨g,j,none⟩ u) (some g):=⟨rfl,rfl,rfl,by simp [World.setCell],fun k hk hne=>Below.heap_setCell _ _ _ _ (by intro e;exact hne (by rw[e]))⟩
 refine⟨h.1.kept hgr (by simp;omega),h.2.kept hgr ?_⟩
 rcases hv:v.ownBlock with _|k
 ·exact .inl rfl
 ·right;have:=(h.2.lt k hv).1;simp;omega
theorem nY.kept{w w1:bQ9}{B g n c b:Nat}{zs:List Nat}{tmp:Obj}{v v':bQa}{cs:List Nat}(h:nY w B g n c zs)(hc:aAT w b v cs)(hg:g<b)(hgr:(w.alloc tmp).grownBy w1 v.ownBlock):nY (w1.setCell ⟨b,0,none⟩ v') B g n c zs:=by
 refine⟨((h.1.alloc tmp).kept hgr ?_).kept (grownBy_setCell' w1 b v') ?_,h.2⟩
 ·right
  intro e
  have:=(hc.2.lt g e.symm).1
  omega
 ·right;simp [Value.ownBlock];omega
theorem aLb{T e:bQb}{B b:Nat}{bs:List bQa}{w w':bQ9}(h:Lib.IsBuilderF T e B b bs w)(hk:∀(k:Nat) (c:Array bQa) (t:bQb) (fz:Nat×Nat),w.heap[k]? =some (Obj.cells c t fz)->w'.heap[k]? =some (Obj.cells c t fz)):Lib.IsBuilderF T e B b bs w':=by
 have key:∀p,Lib.BuilderAtF T e B b p bs w->Lib.BuilderAtF T e B b p bs w':=by
  rintro p ⟨hB,v,hb,hown,hne⟩
  refine⟨hB,v,hk _ _ _ _ hb,⟨hown.1, ?_⟩,hne⟩
  rcases hown.2 with h1|⟨g,cap,cQ,fz,hv,hbg,hg,rest⟩
  ·exact .inl h1
  ·exact .inr ⟨g,cap,cQ,fz,hv,hbg,hk _ _ _ _ hg,rest⟩
 exact h.elim (fun h=> .inl (key _ h)) (fun h=> .inr (key _ h))
theorem aHs{T e:bQb}{B b:Nat}{bs:List bQa}{w w':bQ9}(h:Lib.IsBuilderF T e B b bs w)(hx:bE w w'):Lib.IsBuilderF T e B b bs w':=
 aLb h fun k _ _ _ hk=>(hx.block k (bKi.1 hk).1).trans hk
theorem aM9{e:bQb}{b:Option Nat}{w w':bQ9}(hx:bE w w'):Lib.OthersKept e b w w':=fun k _ hk _ _=>(hx.block k (bKi.1 hk).1).trans hk
theorem aHi{b:Nat}{l:List UInt8}{s:ByteArray}{w:bQ9}(h:Lib.IsBuilderF 121 5 b b (Lib.byteCells l) w)(hl:l.length+s.size<=1000000000)(hb:b<=w.heap.size):
  Calls prog 98 #[.pointer (some ⟨b,0,none⟩),.string s] w fun e w'=>e= .returned (.tuple #[.int .i64 s.size,.nilIface])/\Lib.IsBuilderF 121 5 b b (Lib.byteCells (l++s.data.toList)) w'/\Below b w w'/\Lib.OthersKept 5 (some b) w w':=by
 refine(Any.Builder_WriteString_k { bNp with } bMy b b (Lib.byteCells l) s w h (by rw[Lib.byteCells_length];omega) hb).mono ?_
 rintro e w1 ⟨rfl,h1,h2,h3⟩
 exact⟨rfl,by rw[Lib.byteCells_append];exact .inr h1,h2,h3⟩
theorem bE.trans'{B:Nat}{a b c:bQ9}(h:bE a b)(k:Below B b c)(hB:a.heap.size<=B):bE a c:=Below.trans h (k.mono hB)
end
section
open Go Go.RowKit Go.Shelf
attribute [local go_sem] Oper.semAt_some
def qY(ng:Bool):List UInt8:=if ng then [45]else []
def aLj:Go.Shelf.Ren:=⟨fun |167=>95|n=>bNq.f n,bNq.t,bNq.g⟩
theorem bEM:Lays.n167 prog aLj:={ bNp with f167:=func95.trans (congrArg some (by kernel_rfl)) }
theorem aZf:Builder.Extra prog aLj:={
 sizeBuilder:=by kernel_rfl
 liesBuilder:=by kernel_rfl
 t5:=underlying5
 a5:=isAgg5
 z5:=sizeOf5
 v5:=zeroValue5
 infoByte:=by kernel_rfl
 cellsByte:=by kernel_rfl
 sizeByte:=by kernel_rfl
 neB5:=by decide }
theorem aUX{b:Nat}{w:bQ9}(h:Lib.IsBuilderF 121 5 b b (Lib.byteCells []) w)(hb:b<=w.heap.size):
  Calls prog 95 #[.pointer (some ⟨b,0,none⟩),.int .u8 45] w fun e w'=>e= .returned .nilIface/\Lib.IsBuilderF 121 5 b b (Lib.byteCells [45]) w'/\Below b w w':=by
 refine(Any.Builder_WriteByte_k bEM aZf b b (Lib.byteCells []) 45 w h (by decide) hb).mono ?_
 rintro e w1 ⟨rfl,h1,h2,h3⟩
 exact⟨rfl,.inr h1,h2⟩
def wI(b q kc:Nat)(pre:List UInt8)(bv:bQa)(ys:List (Nat×WK 1000000000))(W:bQ9):Prop:=
 Lib.IsBuilderF 121 5 b b (Lib.byteCells (pre++nM kc (ys.map fun p=>(p.1,p.2.1)))) W/\Boxed W q 45 bv
theorem wI.own(b q kc:Nat)(pre:List UInt8)(bv:bQa):Own (wI b q kc pre bv):=by
 rintro ys W W' row ⟨hl,hb⟩ hg hr
 have hne:∀(k:Nat) (c:Array bQa) (t:bQb) (fz:Nat×Nat),W.heap[k]? =some (Obj.cells c t fz)->some k≠row:=by
  intro k c t fz hk e
  obtain⟨o,ho,hc⟩:=hr k e.symm
  rw[hk]at ho
  cases ho
  cases hc
 exact⟨aLb hl fun k c t fz hk=>(hg.block k (bKi.1 hk).1 (hne k c t fz hk)).trans hk,hb.kept hg (hne _ _ _ _ hb)⟩
theorem wI.next{b q kc B:Nat}{pre:List UInt8}{bv:bQa}{ys:List (Nat×WK 1000000000)}{x:Nat×WK 1000000000}{l:List UInt8}{w7 W W':bQ9}(h:wI b q kc pre bv ys W)(hb:Below b w7 W)(hB:b<B)(hq:b<q)
  (hn:Lib.IsBuilderF 121 5 b b (Lib.byteCells (pre++nM kc (ys.map fun p=>(p.1,p.2.1))++l)) W') (hl:l=if x.1+1<kc then bIQ (9-Lib.nDigits x.2.1) 48++Lib.decDigits x.2.1 else Lib.decDigits x.2.1) (hw:Below b W W') (ho:Lib.OthersKept 5 (some b) W W'):
  KeepsFrom B W W'/\zM b q W W'/\wI b q kc pre bv (ys++[x]) W'/\Below b w7 W':=by
 have hbx:Boxed W' q 45 bv:=ho _ _ h.2 (by intro e;injection e with e;omega) (by intro c fz e;injection e with _ e _;revert e;decide)
 refine⟨⟨hw.size,fun k o hk h1 h2=>ho k o h1 (by intro e;injection e with e;omega) (by rintro c fz rfl;cases h2)⟩,⟨hw,fun v hv=> ?_⟩,⟨?_,hbx⟩,hb.trans hw⟩
 ·rw[h.2.cell]at hv
  rw[hbx.cell,hv]
 ·rw[List.map_append,List.map_singleton,aN5,←bKp,←hl]
  exact hn
set_option maxRecDepth 100000 in
set_option maxHeartbeats 6400000 in
theorem aWG{A:Option Addr}{n c a:Nat}{ng:Bool}{w:bQ9}(h:jS w (.slice A n c) (aO a))(hl:n<=5000)(ha:a<2^240)(hg:GLp w):
  Calls prog 35 #[.agg #[.bool ng,.slice A n c]] w fun e w'=>e= .returned (.string ⟨(if a=0 then [48]else qY ng++Lib.decDigits a).toArray⟩)/\bE w w':=by
 have ha:=Lib.hid ha
 have hlen:=h.len
 have HT:Hid (∀w1,bE w w1->Calls prog 94 #[.slice A n c] w1 fun e w'=>e= .returned (.slice A n c)/\w1=w'):=fun w1 hx=>by
  have:=aON (h.ext hx)
  rwa [kH,←hlen.1]at this
 have HC:Hid (∀w1,bE w w1->Calls prog 93 #[.slice A n c] w1 (Ret w1 fun v w'=>w'.ownsRow w1.heap.size 100 1 v n (gR (aO a)))):=fun w1 hx=>by
  have:=aUV (h.ext hx)
  rwa [←hlen.1]at this
 have HN:=Lib.hid hlen.1
 have HB:=Lib.hid (aCh.new w ng (.slice A n c) 47 (by simp))
 clear h hlen
 refine(callsIn_wide (n:=5)).1 ?_
 refine callsIn_of_wp_marks func35 rfl trivial ?_ rfl
 simp only[ntmps35,bKm,bIV,List.length_nil,Nat.reduceAdd,Nat.reduceSub,Array.replicate_succ,Array.replicate_zero,List.push_toArray,List.append_toArray,List.nil_append,bJG]
 obtain⟨y0,y1,y2,y3, -⟩:=HB.out
 gi_wp2_with fail
 refine⟨trivial,callsIn_wide.2 ((HT.out _ (bE.alloc _ _)).mono ?_)⟩
 rintro e w1 ⟨rfl,rfl⟩
 gi_wp2_with fail
 refine⟨trivial,callsIn_wide.2 ((HC.out _ (bE.alloc _ _)).mono ?_)⟩
 rintro e w2 ⟨v2,rfl,ho2,hx2⟩
 have hE2:bE w w2:=bE.trans (bE.alloc _ _) hx2
 rw[World.size_alloc]at ho2
 have HB2:=Lib.hid (HB.out.ext hx2)
 have HO2:=Lib.hid ho2
 clear HT HC HB y0 y1 y2 y3 hx2
 by_cases h0:a=0
 ·subst h0
  have hn0:n=0:=by rw[HN.out,gW];rfl
  subst hn0
  obtain⟨A',c',rfl⟩:∃A c,v2= .slice A 0 c:=by
   rcases ho2.2 with ⟨h1, -⟩|⟨g,cap,cQ,h1, -⟩
   ·exact⟨none,0,h1⟩
   ·exact⟨_,_,h1⟩
  clear ho2 HO2 HB2 HN
  gi_wp2_with fail
  exact⟨_,results_tmp rfl _ _ _,rfl,hE2⟩
 ·have hpos:0<n:=by rw[HN.out,uM h0];simp
  obtain⟨g,cap,rfl,hgb,hgl⟩:=ho2.form hpos
  clear ho2
  have hM0:nY (w2.alloc (.cells #[.slice none 0 0] 45)) (w.heap.size+1) g n cap (aO a):=⟨HO2.out.alloc _,HN.out.symm,cV a⟩
  have hC0:aAT (w2.alloc (.cells #[.slice none 0 0] 45)) w2.heap.size (.slice none 0 0) []:=⟨Boxed.new w2 _ _,World.ownsRow_nil _ _ _ _⟩
  have hE4:bE w (w2.alloc (.cells #[.slice none 0 0] 45)):=hE2.palloc _
  have HB4:=Lib.hid (HB2.out.ext (bE.alloc w2 (.cells #[.slice none 0 0] 45)))
  have hs4:w2.heap.size<(w2.alloc (.cells #[.slice none 0 0] 45)).heap.size:=by simp
  have HS0:Hid (oL a a []):=oL.start (by omega)
  have H0:Hid (a≠0):=h0
  have hz:((n:Int)==0)=false:=by rw[beq_eq_false_iff_ne];omega
  clear HO2 HB2 h0
  gi_wp2_with fail
  generalize (w2.alloc (.cells #[.slice none 0 0] 45))=w4 at*
  generalize w2.heap.size=b4 at*
  have HM0:=Lib.hid hM0
  have HC0:=Lib.hid hC0
  clear hM0 hC0
  gi_loopg [3,5,6] a (fun x m r i wr=>∃(k:Nat) (v:bQa) (cs:List Nat),m= .slice (some ⟨g,0,none⟩) k cap/\k<=5000/\Hid (k=(aO x).length)/\Hid (nY wr (w.heap.size+1) g k cap (aO x))/\Hid (aAT wr b4 v cs)/\Hid (oL a x cs)/\Hid (Below g w4 wr))
  case atStart=>exact⟨n,_,[],rfl,hl,HN,HM0,HC0,HS0,Below.refl _ _⟩
  case round=>
   obtain⟨k,v,cs,rfl,hk,HK,HM,HCR,HCS,HBE⟩:=hrel
   by_cases hx0:gk=0
   ·subst hx0
    have hk0:k=0:=by rw[HK.out,gW];rfl
    subst hk0
    obtain⟨hl9,hl0,hnd⟩:=HCS.out.fin ha.out
    have hcc:=HCS.out.1
    have hcs:∀i,cs.getD i 0<1000000000:=fun i=>by
     rcases bIT i cs.length with h|h
     ·rw[bJb,bJM h];exact hcc _ (List.getElem_mem h)
     ·rw[bJb,List.getElem?_eq_none h];exact Nat.zero_lt_succ _
    have HND:=Lib.hid hnd
    have HCC:=Lib.hid hcc
    obtain⟨hbx,hrow⟩:=HCR.out
    obtain⟨g5,c5,rfl,hg5,hl5⟩:=hrow.form (by omega)
    have hbc:=hbx.cell
    have hb4:b4<wr.heap.size:=hbx.lt
    have hneg:wr.cell? ⟨w.heap.size,0,none⟩=some (.bool ng):=(HBE.out.cell (p:=⟨w.heap.size,0,none⟩) hgb).trans HB4.out.1
    have hwl:w.heap.size<wr.heap.size:=by omega
    have HE:Hid (bE w wr):=hE4.trans' HBE.out (by omega)
    have hcell:∀j,j<cs.length->wr.cell? ⟨g5,j,none⟩=some (.int .u32 ((cs.getD j 0:Nat):Int)):=fun j hj=>aP3 hrow rfl hj
    have HCL:=Lib.hid hcell
    have HCB:=Lib.hid hcs
    have HBX:=Lib.hid hbx
    clear hnd hcc hcell hcs HCR hrow hbx HM HCS HK HBE HB4 HM0 HC0 HS0
    generalize hkc:cs.length=kc at*
    obtain⟨b7,hb7⟩:∃b,b=wr.heap.size:=⟨_,rfl⟩
    cases hng:ng
    case' false=>
     gi_wp2_with fail
     have hW5:Lib.IsBuilderF 121 5 b7 b7 (Lib.byteCells (qY false)) (wr.alloc (.cells #[.pointer none,.slice none 0 0] 121)):=hb7 ▸ Lib.IsBuilderF.of (Lib.fresh_isBuilder _ _ wr)
     have hB5:Below wr.heap.size wr (wr.alloc (.cells #[.pointer none,.slice none 0 0] 121)):=(Below.refl _ _).alloc (bIK _) _
     have hs5:b7<(wr.alloc (.cells #[.pointer none,.slice none 0 0] 121)).heap.size:=by rw[World.size_alloc];omega
     rw[←hb7]
     have hbc5:=(hB5.cell (p:=⟨b4,0,none⟩) hb4).trans hbc
     generalize wr.alloc (.cells #[.pointer none,.slice none 0 0] 121)=w5 at*
    case' true=>
     have HWB:=Lib.hid (aUX (b:=wr.heap.size) (Lib.IsBuilderF.of (Lib.fresh_isBuilder _ _ wr)) (by simp:wr.heap.size<=(wr.alloc (.cells #[.pointer none,.slice none 0 0] 121)).heap.size))
     gi_wp2_with fail
     refine⟨trivial,callsIn_wide.2 (HWB.out.mono ?_)⟩
     rintro e w5 ⟨rfl,hW5,hB5⟩
     have hs5:b7<w5.heap.size:=by have:=hB5.size;rw[World.size_alloc]at this;omega
     have hB5:Below wr.heap.size wr w5:=((Below.refl _ _).alloc (bIK _) _).trans hB5
     rw[←hb7]at hW5
     change Lib.IsBuilderF _ _ _ _ (Lib.byteCells (qY true)) _ at hW5
     clear HWB
     have hbc5:=(hB5.cell (p:=⟨b4,0,none⟩) hb4).trans hbc
     gi_wp2_with fail
     rw[←hb7]
    all_goals
     have hE5:bE w w5:=HE.out.trans' hB5 (by omega)
     have hb47:b4<b7:=by omega
     have hg57:g5<b7:=by omega
     have hw7:w.heap.size<b7:=by omega
     have HCL5:Hid (∀j,j<kc->w5.cell? ⟨g5,j,none⟩=some (.int .u32 ((cs.getD j 0:Nat):Int))):=fun j hj=>(hB5.cell (p:=⟨g5,j,none⟩) hl5).trans (HCL.out j hj)
     have hf5:b4<w5.heap.size:=by have:=hB5.size;omega
     have hg5':g5<w5.heap.size:=by have:=hB5.size;omega
     have HW5:=Lib.hid hW5
     have HE5:=Lib.hid hE5
     have HB4B:Hid (∀W,Below b7 w5 W->W.cell? ⟨b4,0,none⟩=some (.slice (some ⟨g5,0,none⟩) kc c5)):=fun W h=>(h.cell (p:=⟨b4,0,none⟩) (by show b4<b7;omega)).trans hbc5
     clear HBX HCL HE hbc hneg hW5 hE5 hB5
     clear hb7
     refine⟨trivial,(aL6 Fence.wide 4 trivial rfl _ _ _ _).mono ?_⟩
     rintro e w6 ⟨rfl,rfl⟩
     gi_wp2_with fail
     obtain⟨q,hq⟩:∃q,q=w5.heap.size:=⟨_,rfl⟩
     have hE7:bE w5 (w5.alloc (.cells #[.slice (some ⟨g5,0,none⟩) kc c5] 45)):=bE.alloc _ _
     have HI0:Hid (wI b7 q kc (qY ng) (.slice (some ⟨g5,0,none⟩) kc c5) [] (w5.alloc (.cells #[.slice (some ⟨g5,0,none⟩) kc c5] 45))):=
      ⟨by rw[hng];exact(bK3 (qY _)).symm ▸ aHs HW5.out (bE.alloc _ _),hq ▸ Boxed.new w5 45 (.slice (some ⟨g5,0,none⟩) kc c5)⟩
     have hs7:(w5.alloc (.cells #[.slice (some ⟨g5,0,none⟩) kc c5] 45)).heap.size=q+1:=by rw[World.size_alloc,hq]
     have HCL7:Hid (∀j,j<kc->(w5.alloc (.cells #[.slice (some ⟨g5,0,none⟩) kc c5] 45)).cell? ⟨g5,j,none⟩=some (.int .u32 ((cs.getD j 0:Nat):Int))):=fun j hj=>(hE7.cell (p:=⟨g5,j,none⟩) hg5').trans (HCL5.out j hj)
     have HE7:Hid (bE w (w5.alloc (.cells #[.slice (some ⟨g5,0,none⟩) kc c5] 45))):=bE.trans HE5.out hE7
     have HB7:Hid (Below b7 w5 (w5.alloc (.cells #[.slice (some ⟨g5,0,none⟩) kc c5] 45))):=hE7.mono (by omega)
     clear HE5 hE7 HCL5 HW5
     have hbq:b7<q:=by omega
     rw[←hq]
     clear hq hbc5
     generalize w5.alloc (.cells #[.slice (some ⟨g5,0,none⟩) kc c5] 45)=w7 at*
     subst hkc
     refine' wpIn_rangeFunc_ownG rfl (by omega) (gf:=184) (lb:= #[.pointer (some ⟨q,0,none⟩)]) rfl trivial (enters_of func184 (by kernel_rfl) rfl)
      (aL3 (K:=1000000000) Fence.wide 4 trivial rfl (by omega) q b7 (some ⟨g5,0,none⟩) c5 cs w7 (by omega) (by omega) HI0.out.2.cell (by omega) HCB.out (fun _=>⟨g5,0,rfl,by omega,fun j hj=>by rw[bJl];exact HCL7.out j hj⟩)) aTm (aTt (by omega) (by omega)) (Below.refl _ _) (fun _=>rfl)
      (fun pre W=>wI b7 q cs.length (qY ng) (.slice (some ⟨g5,0,none⟩) cs.length c5) pre W/\Below b7 w7 W)
      (fun _ _ _=>False)
      (OwnFrom.and (Own.from (wI.own _ _ _ _ _) _) (ownFrom_below (by omega) (by omega)))
      (fun _ _ _ _ _ hs _ _=>hs)
      ⟨HI0.out,Below.refl _ _⟩
      _ ?assign ?body ?done ?stop
     case assign=>
      intro l x W K hK
      gi_wp2
      exact hK
     case body=>
      rintro lp pre x W ⟨HB0,hbel⟩ hpl
      have HBS:=Lib.hid HB0
      obtain⟨hb0,hbxW⟩:=HB0
      have hc9:=aMR x.2.2
      have hxw:x.2.1<1000000000:=x.2.2
      have hol:=aPs cs.length (pre.map fun p=>(p.1,p.2.1)) (fun y hy=>by obtain⟨z, -,rfl⟩:=List.mem_map.1 hy;exact z.2.2)
      rw[bJB]at hol
      have hsg:(qY ng).length<=1:=by cases ng<;>decide
      have HF:=Lib.hid (aUS x.2.1 (by have:=x.2.2;omega) W (hg.ext (HE7.out.trans' hbel (by omega))))
      have hcb:W.cell? ⟨b4,0,none⟩=some (.slice (some ⟨g5,0,none⟩) cs.length c5):=HB4B.out _ (HB7.out.trans hbel)
      have hb7W:b7<=W.heap.size:=by have:=hbel.size;omega
      have HB0:=Lib.hid hb0
      have hl0:(qY ng++nM cs.length (pre.map fun p=>(p.1,p.2.1))).length<=9000000:=by rw[bJ3];omega
      have HNX:=Lib.hid fun l W'=>wI.next (l:=l) (W':=W') (x:=x) HBS.out hbel (B:=w7.heap.size) (by omega) (by omega)
      have hdl:=Lib.decDigits_length x.2.1
      clear hb0
      generalize qY ng++nM cs.length (pre.map fun p=>(p.1,p.2.1))=l0 at*
      obtain⟨s,hs⟩:∃s:ByteArray,s=⟨(Lib.decDigits x.2.1).toArray⟩:=⟨_,rfl⟩
      have hss:s.size=Lib.nDigits x.2.1:=by rw[hs];show(Lib.decDigits x.2.1).toArray.size=_;rw[bKm,hdl]
      have HSD:Hid (s.data.toList=Lib.decDigits x.2.1):=by show _=_;rw[hs]
      rw[←hs]at HF
      clear hs hdl
      generalize x.2.1=xw at*
      generalize x.1=xi at*
      rw[←hss]at hc9
      have HSS:=Lib.hid hss
      clear hss
      gi_wp2_with fail
      refine⟨trivial,CallsIn.inRound lp (callsIn_wide.2 (HF.out.mono ?_))⟩
      rintro e w1 ⟨rfl,hx1⟩
      have HB1:=Lib.hid (aHs HB0.out hx1)
      have hcb1:=(hx1.cell (p:=⟨b4,0,none⟩) (by show b4<_;omega)).trans hcb
      have hb71:b7<=w1.heap.size:=by have:=hx1.size;omega
      have HW1:Hid (Below b7 W w1):=hx1.mono hb7W
      have HO1:Hid (Lib.OthersKept 5 (some b7) W w1):=aM9 hx1
      clear HF HB0 hcb hx1 hxw
      by_cases hlo:xi+1<cs.length
      ·have hlo':(xi:Int)<(cs.length:Int)-1:=by omega
       have HR:=Lib.hid (fun w2=>aV2 (9-s.size) (by omega) w2)
       rw[show(((9-s.size:Nat)):Int)=9-(s.size:Int) by omega]at HR
       gi_wp2_with fail
       refine⟨trivial,CallsIn.inRound lp (callsIn_wide.2 ((HR.out _).mono ?_))⟩
       rintro e w2 ⟨rfl,hx2⟩
       have hb72:b7<=w2.heap.size:=by have:=hx2.size;omega
       obtain⟨s2,hs2⟩:∃s2:ByteArray,s2=⟨(bIQ (9-s.size) 48).toArray⟩:=⟨_,rfl⟩
       have HS2:Hid (s2.data.toList=bIQ (9-s.size) 48):=by show _=_;rw[hs2]
       have hs29:s2.size<=9:=by rw[hs2];show(bIQ (9-s.size) 48).toArray.size<=_;rw[bKm,bJz];omega
       rw[←hs2]
       have HWR:=Lib.hid (aHi (aHs HB1.out hx2) (s:=s2) (by omega) hb72)
       have HW2:Hid (Below b7 W w2):=HW1.out.trans (hx2.mono hb71)
       have HO2:Hid (Lib.OthersKept 5 (some b7) W w2):=HO1.out.trans (aM9 hx2)
       clear HR HB1 hcb1 hx2 HW1 HO1 hs2
       gi_wp2_with fail
       refine⟨trivial,CallsIn.inRound lp (callsIn_wide.2 (HWR.out.mono ?_))⟩
       rintro e w3 ⟨rfl,hb3,hw3,ho3⟩
       have hb73:b7<=w3.heap.size:=by have:=hw3.size;omega
       have HWR3:=Lib.hid (aHi hb3 (s:=s) (by
        have e1:s2.data.toList.length=s2.size:=by rw[bKM];rfl
        rw[bJ3]
        omega) hb73)
       have HW3:Hid (Below b7 W w3):=HW2.out.trans hw3
       have HO3:Hid (Lib.OthersKept 5 (some b7) W w3):=HO2.out.trans ho3
       clear HWR hb3 hw3 ho3 HW2 HO2
       gi_wp2_with fail
       refine⟨trivial,CallsIn.inRound lp (callsIn_wide.2 (HWR3.out.mono ?_))⟩
       rintro e w4 ⟨rfl,hb4',hw4,ho4⟩
       have HFIN:=Lib.hid (HNX.out (s2.data.toList++s.data.toList) w4 (by rw[←bKp];exact hb4') (by rw[if_pos hlo,HSD.out,HS2.out,HSS.out]) (HW3.out.trans hw4) (HO3.out.trans ho4))
       clear HWR3 hb4' hw4 ho4
       gi_wp2_with fail
       exact HFIN.out
      ·have hlo':¬((xi:Int)<(cs.length:Int)-1):=by omega
       have HWR3:=Lib.hid (aHi HB1.out (s:=s) (by omega) hb71)
       clear HB1
       gi_wp2_with fail
       refine⟨trivial,CallsIn.inRound lp (callsIn_wide.2 (HWR3.out.mono ?_))⟩
       rintro e w4 ⟨rfl,hb4',hw4,ho4⟩
       have HFIN:=Lib.hid (HNX.out s.data.toList w4 hb4' (by rw[if_neg hlo,HSD.out]) (HW1.out.trans hw4) (HO1.out.trans ho4))
       clear HWR3 hb4' hw4 ho4
       gi_wp2_with fail
       exact HFIN.out
     case done=>
      rintro D ys W hD ⟨hy1,hy2⟩ ⟨⟨hb,hbx⟩,hbel⟩ hK
      have hall:=aZg (cs:=cs) (ys:=ys.map fun p=>(p.1,p.2.1)) HCC.out (by intro e;rw[e]at hl0;exact absurd hl0 (by decide)) (by rw[bKj];exact hy1) (by rw[bKj];exact hy2)
      rw[hall,HND.out]at hb
      have hb7W:b7<=W.heap.size:=by have:=hbel.size;omega
      have HSTR:=Lib.hid (Any.Builder_String_any_k { bNp with } bMy b7 b7 (qY ng++Lib.decDigits a) W hb hb7W)
      have HEW:Hid (bE w W):=HE7.out.trans' hbel (by omega)
      clear hy1 hy2 hb hbx hall
      gi_wp2_with fail
      refine⟨trivial,callsIn_wide.2 (HSTR.out.mono ?_)⟩
      rintro e w8 ⟨rfl,h1,h2,h3⟩
      have hK8:w8.heap[D]? =some (.deferred (some [])):=h3 D _ hK (by intro e;injection e with e;omega) (by intro c fz e;cases e)
      have HE8:Hid (bE w w8):=HEW.out.trans' h2 (by omega)
      clear h1 h2 h3 HSTR hK
      gi_wp2_with fail
      refine⟨by simp,.inl ⟨_,_,rfl,run_takeDeferred hK8, ?_⟩⟩
      refine⟨_,results_tmp rfl _ _ _, ?_,Below.trans HE8.out (belowK_b (w:=w) (bIK _) w8 D _ _ (by omega) hK8 rfl rfl)⟩
      rfl
     case stop=>
      rintro D c pre W _ _ h _
      exact h.elim
   ·have hk0:0<k:=by rw[HK.out,uM hx0];simp
    gi_wp2_with fail
    generalize gk=x at*
    gi_loopg [5,6] k (fun j r i wr2=>∃(ρ:Nat) (zs:List Nat),i= .int .i64 ((j:Int)-1)/\r= .int .u64 (ρ:Int)/\ρ<1000000000/\j<=k/\Hid (nY wr2 (w.heap.size+1) g k cap zs)/\Hid (aAT wr2 b4 v cs)/\Hid ((∀t,t<j->zs.getD t 0=(aO x).getD t 0)/\val ((aO x).drop j)=1000000000*val (zs.drop j)+ρ)/\Hid (Below g w4 wr2))
    case atStart=>exact⟨0,aO x,by first|rfl|simp,rfl,by omega,bIK _,HM,HCR,⟨fun _ _=>rfl,by rw[List.drop_eq_nil_of_le (by rw[HK.out];exact bIK _)];rfl⟩,HBE⟩
    case round=>
     obtain⟨ρ,zs,rfl,rfl,hρ,hj,HM2,HC2,HV,HB2⟩:=hrel
     by_cases hj0:0<gk
     ·obtain⟨t,rfl⟩:∃t,gk=t+1:=⟨gk-1,by omega⟩
      have hi:(((t+1:Nat):Int))-1=(t:Int):=by omega
      rw[hi]
      have g1:=aP3 HM2.out.1 HM2.out.2.1 (j:=t) (by omega)
      rw[HV.out.1 t (by omega)]at g1
      have g2:=HM2.out.1.frozenAt t
      have hy:=(cV x).getD t
      have HS:Hid (val ((aO x).drop t)=1000000000*val ((zs.set t (((aO x).getD t 0+4294967296*ρ)/1000000000)).drop t)+((aO x).getD t 0+4294967296*ρ)%1000000000):=aJs (by rw[←HK.out];omega) (by rw[HM2.out.2.1];exact HK.out) HV.out.2
      have HU:Hid (∀q s,s<t->(zs.set t q).getD s 0=(aO x).getD s 0):=fun q s hs=>by
       rw[←HV.out.1 s (by omega),bJb,bJb,List.getElem?_set_ne (by omega)]
      have hqr:(((aO x).getD t 0+4294967296*ρ)/1000000000)<4294967296:=aGg hρ hy
      generalize (aO x).getD t 0=y at*
      clear hi HV HK HM HCR HCS HBE
      gi_wp2_with fail
      have e1:=bIA hρ (by omega) hy
      have e2:=bIl hρ (by omega) hy
      simp only[Int.cast_ofNat_Int]at e1 e2
      rw[e1,e2]
      have hr:=bJa (y+4294967296*ρ) (show 0<1000000000 by omega)
      gi_roundg t
      case measure=>omega
      case rel=>exact⟨_,_,rfl,rfl,hr,by omega,HM2.out.set_ t hqr,HC2.out.far hgl _,⟨fun s hs=>HU.out _ s hs,HS.out⟩,HB2.out.setCell (p:=⟨g,t,none⟩) (bIK _) _⟩
     ·obtain rfl:gk=0:=by omega
      have hval:val (aO x)=1000000000*val zs+ρ:=by have:=HV.out.2;simpa using this
      rw[cO]at hval
      have hq:x/1000000000=val zs:=by omega
      have hr:x%1000000000=ρ:=by omega
      have htl:cG zs=aO (x/1000000000):=by rw[hq];exact iB HM2.out.2.2
      have HT2:=Lib.hid (aON (HM2.out.words hk))
      have HM3:=Lib.hid HM2.out.trim
      rw[htl]at HT2 HM3
      have HS3:Hid (oL a (x/1000000000) (cs++[ρ])):=by rw[←hr];exact HCS.out.step (by omega)
      have HK3:Hid ((aO (x/1000000000)).length<=5000):=by
       have:=qC zs
       rw[htl,HM2.out.2.1]at this
       show _<=_;omega
      have hx2:x/1000000000<x:=by omega
      have hcl:cs.length<=8:=HCS.out.len (by omega) ha.out
      obtain⟨hbx,hrow⟩:=HC2.out
      have hbc:=hbx.cell
      have hb4:b4<wr.heap.size:=hbx.lt
      obtain⟨i0,hi,hz0,hz1,hz2⟩:=info_parts aJf
      have hro:wr.ownsRow b4 100 1 v cs.length (gR cs):=hrow
      clear hval hq hr htl HV HK HM HCR HCS HBE
      generalize x/1000000000=x' at*
      generalize hlk:(aO x').length=k' at*
      have HLK:=Lib.hid hlk
      clear hlk
      gi_wp2_with fail
      refine⟨trivial,callsIn_wide.2 (HT2.out.mono ?_)⟩
      rintro e w5 ⟨rfl,rfl⟩
      gi_wp2_with (gi_at_builtin;refine wpListIn_append_own _ rfl _ _ 45 rfl b4 100 i0 (.int .u32 0) 1 4 underlying45 hi hz0 hz1 hz2 rfl (by decide) _ _ _ rfl (hro.alloc _) ⟨wr.heap.size,0,none⟩ 1 1 [.int .u32 (ρ:Int)] rfl rfl (cell_one_new _ _ _) (by simp [Value.oneCell']) (by unfold maxLen;omega) (by omega) (by simp;omega) ?_;intro v5 w5 hown5 hgr5 _;obtain⟨g5,c5,rfl⟩:=ownsRow_succ hown5;obtain⟨hv1,hv2,hr2,hk2,hb2⟩:=hbx.appended (by decide) hro (by omega) (bIK _) hown5 hgr5;have hc1:=hv1.cell;have hf1:=hv1.frozen;have HM5:=Lib.hid (HM3.out.kept HC2.out hgl hgr5 (v':= .slice (some ⟨g5,0,none⟩) (cs.length+1) c5)))
      gi_roundg x'
      case measure=>exact hx2
      case rel=>
       refine⟨k',_,cs++[ρ],rfl,HK3.out,HLK.out.symm,HM5,⟨hv2, ?_⟩,HS3,HB2.out.trans (hb2.mono (by omega))⟩
       have:=hr2
       simpa [gR]using this
end
end Go.Proofs.YtmjoaipkaddkbaaGreatDoor
namespace Go.Proofs.YtmjoaipkaddkbaaGreatDoor.Ev
section
open Go Go.RowKit
variable {m:Nat}
theorem fX.max{w:bQ9}(h:fX w):∃m,w.cell? ⟨0,0,none⟩=some (.int .i64 m):=by
 obtain⟨sz,h⟩:=h
 obtain⟨h1,h2⟩:=h (0,⟨[.fn (.yield 1) [] []],false⟩) bJS
 obtain⟨cs,el,I,g2,g3,g4, -⟩:=h2.cells rfl
 obtain⟨fr,g1⟩:=aHD I
 have g3:1<=sz 0:=g3
 have g4:bU _ [.fn (.yield 1) [] []] (cs.toList.take 1):=g4
 generalize o:cs.toList.take 1=l at g4
 cases g4 with
 | cons y _=>
  cases y with
  |anyI z=>
   refine⟨z, ?_⟩
   have h0:(cs.toList.take 1)[0]? =some (.int .i64 z):=by rw[o];rfl
   rw[List.getElem?_take_of_lt (by decide)]at h0
   simp only[World.cell?,g1]
   simpa using h0
def aDR:List TV->Option TV
 | [.str s,.str p]=>some (.tp [.str ⟨(Lib.trimPrefix s.data.toList p.data.toList).toArray⟩,.b (Lib.hasPrefix s.data.toList p.data.toList)])
 |_=>none
theorem aXI:aAz PG 29 aDR:=fun w vs ts R C d=>by
 unfold aDR at d
 split at d
 ·next s p=>
  cases d
  cases C with |cons y o=>
  cases o with |cons D hn=>
  cases hn
  cases y
  cases D
  refine(bPC s p w).mono ?_
  rintro e w' ⟨rfl,rfl⟩
  exact⟨_,rfl,Below.refl _ _,.tp (.cons (.str _) (.cons (.b _) .nil))⟩
 ·cases d
def aE5:List TV->Option TV
 | [.str s,.str p]=>if s.size<4294967281 then some (.tp [.str ⟨(Lib.cut s.data.toList p.data.toList).1.toArray⟩,.str ⟨(Lib.cut s.data.toList p.data.toList).2.1.toArray⟩,.b (Lib.cut s.data.toList p.data.toList).2.2])else none
 |_=>none
theorem bAG:aDN PG 30 aE5:=fun w vs ts R E C d=>by
 unfold aE5 at d
 split at d
 ·next s p=>
  split at d
  ·next hs=>
   cases d
   cases C with |cons y o=>
   cases o with |cons D hn=>
   cases hn
   cases y
   cases D
   obtain⟨mx,F⟩:=E.max
   refine(bPB s p mx w hs F).mono ?_
   rintro e w' ⟨rfl,n,rfl⟩
   exact⟨_,rfl,bE.drewN w n,.tp (.cons (.str _) (.cons (.str _) (.cons (.b _) .nil)))⟩
  ·cases d
 ·cases d
def aAs:List TV->Option (List TV)
 | [.str s,.str p]=>if s.size<4294967281/\1<=p.size/\(Lib.splitB p 0 (Lib.countB s p) s).length=Lib.countB s p+1 then some ((Lib.splitB p 0 (Lib.countB s p) s).map .str)else none
 |_=>none
theorem aQU{w:bQ9}:∀l:List ByteArray,cW w (l.map Value.string) (l.map TV.str)
 | []=> .nil
 |s::l=> .cons (.str s) (aQU l)
theorem aWZ:aKB PG 31 aAs:=fun w vs ts L E C d=>by
 unfold aAs at d
 split at d
 ·next s p=>
  split at d
  ·next hs=>
   cases d
   cases C with |cons y o=>
   cases o with |cons D hn=>
   cases hn
   cases y
   cases D
   obtain⟨mx,F⟩:=E.max
   refine⟨9,_,aQU _, ?_⟩
   rw[bJB,hs.2.2]
   exact bPR s p mx w hs.1 F hs.2.1
  ·cases d
 ·cases d
def aCs:List TV->Option (List ByteArray)
 | []=>some []
 | .str s::l=>(aCs l).map (s:: ·)
 |_::_=>none
theorem aMk:∀ {l:List TV} {xs:List ByteArray},aCs l=some xs->l=xs.map .str
 | [],_,h=>by cases h;rfl
 | a::l,xs,h=>by
  unfold aCs at h
  split at h
  ·next e=>cases e
  ·next s l' e=>
   cases e
   rw[Option.map_eq_some_iff]at h
   obtain⟨ys,h1,rfl⟩:=h
   rw[bJu,aMk h1]
  ·cases h
theorem aOc:∀xs:List ByteArray,aCs (xs.map .str)=some xs
 | []=>rfl
 |x::xs=>by rw[bJu,aCs,aOc xs];rfl
def aAO:List TV->Option TV
 | [.im 1 l,.str p]=>(aCs l).bind fun xs=>if l≠ []/\xs.length<=140737488355328/\(Lib.join (xs.map (·.data.toList)) p.data.toList).length<=140737488355328 then some (.str ⟨(Lib.join (xs.map (·.data.toList)) p.data.toList).toArray⟩)else none
 |_=>none
theorem aYK:aAz PG 36 aAO:=fun w vs ts R C d=>by
 unfold aAO at d
 split at d
 ·next l p=>
  rw[bIL]at d
  obtain⟨xs,h1,d⟩:=d
  split at d
  ·next hs=>
   cases d
   obtain rfl:=aMk h1
   cases C with |cons y o=>
   cases o with |cons D hn=>
   cases hn
   cases D
   obtain⟨A,c,rfl,hc,G⟩:=aDM (n:=xs.length) (by decide) (by simp) y
   have B:0<xs.length:=by
    rcases xs with _|⟨x,xs⟩
    ·exact absurd rfl hs.1
    ·simp
   obtain⟨b,off,rfl,J,H⟩:=G B
   refine(bPI b off c xs p w (fun j x hx=> ?_) J hs.2.1 hc hs.2.2).mono ?_
   ·obtain⟨u,g1,g2⟩:=H j (.str x) (by rw[bKv,hx];rfl)
    cases g2
    exact g1
   ·rintro e w' ⟨rfl,hx⟩
    exact⟨_,rfl,hx,.str _⟩
  ·cases d
 ·cases d
def aCb:List TV->Option TV
 | [.int .i64 (.ofNat n)]=>if n<100 then some (.str ⟨(Lib.decDigits n).toArray⟩)else none
 |_=>none
theorem aXw:aAz PG 37 aCb:=fun w vs ts R C d=>by
 unfold aCb at d
 split at d
 ·next n=>
  split at d
  ·next hs=>
   cases d
   cases C with |cons y o=>
   cases o
   cases y
   refine(bPs n hs w).mono ?_
   rintro e w' ⟨rfl,rfl⟩
   exact⟨_,rfl,Below.refl _ _,.str _⟩
  ·cases d
 ·cases d
def aDO:List TV->Option TV
 | [.str s]=>if s.size<=9223372036854775806 then(match Lib.atoiAll s.data.toList with | .ok v=>some (.tp [.int .i64 v,.lit .nilIface])|_=>none)else none
 |_=>none
theorem aVC(w:bQ9)(t:bQb)(s:ByteArray):Below w.heap.size w (Lib.bytesWorld w t s):=⟨rfl,rfl,rfl,by rw[Lib.bytesWorld_size];exact Nat.le_succ _,fun k K=>Lib.bytesWorld_at_old w t s k K⟩
theorem aWT:aAz PG 33 aDO:=fun w vs ts R C d=>by
 unfold aDO at d
 split at d
 ·next s=>
  split at d
  ·next hs=>
   split at d
   ·next v M=>
    cases d
    cases C with |cons y o=>
    cases o
    cases y
    refine(bPo s hs v M w).mono ?_
    rintro e w' ⟨rfl,rfl|⟨t,rfl⟩⟩
    ·exact⟨_,rfl,Below.refl _ _,.tp (.cons (.int _ _) (.cons (.lit ⟨fun _ h=>(by cases h),fun _ h=>(by cases h)⟩) .nil))⟩
    ·exact⟨_,rfl,aVC _ _ _,.tp (.cons (.int _ _) (.cons (.lit ⟨fun _ h=>(by cases h),fun _ h=>(by cases h)⟩) .nil))⟩
   ·cases d
  ·cases d
 ·cases d
def yJ:List TV->Option TV
 | [.ag [.b ng,t]]=>(rO t).bind fun xs=>if xs=aO (val xs)/\val xs<2^240 then some (.str ⟨(if val xs=0 then [48]else qY ng++Lib.decDigits (val xs)).toArray⟩)else none
 |_=>none
theorem aYj{w:bQ9}{v:bQa}{t:TV}{xs:List Nat}(h:WT w v t)(hx:rO t=some xs)(o:xs.length<=5000):∃A c,v= .slice A xs.length c/\jS w v xs:=by
 obtain⟨V,⟨rfl,rfl⟩|rfl⟩:=aEt hx
 ·obtain⟨A,c,rfl⟩:=aGe h
  exact⟨A,c,rfl,A,c,rfl,Nat.zero_le _,by decide,V,fun h=>absurd h (Nat.lt_irrefl 0)⟩
 ·obtain⟨A,c,rfl,hc,hh⟩:=aDM (n:=xs.length) (by decide) (by simp) h
  refine⟨A,c,rfl,A,c,rfl,hc,by omega,V,fun h0=> ?_⟩
  obtain⟨b,off,e,D,G⟩:=hh h0
  refine⟨b,off,e,D,fun k K=> ?_⟩
  obtain⟨u,g1,g2⟩:=G k (wc (xs.getD k 0)) (by simp [K])
  cases g2
  exact g1
theorem aOu{Γ:aP}{k:IntKind}:∀ {l:List Nat} {vs:List bQa},bU Γ (l.map (AV.i k)) vs->vs=l.map fun n=>Value.int k ((n:Nat):Int)
 | [],_,h=>by cases h;rfl
 | n::l,_,h=>by
  cases h with
  |cons y o=>
   cases y
   rw[aOu o];rfl
theorem aZG{w:bQ9}(h:fX w):GLp w:=by
 obtain⟨sz,h⟩:=h
 obtain⟨q,hq,N,O⟩:∃q,q∈nD/\q.1=3/\q.2=⟨([1,10,100,1000,10000,100000,1000000,10000000,100000000,1000000000,10000000000,100000000000,1000000000000,10000000000000,100000000000000,1000000000000000,10000000000000000,100000000000000000,1000000000000000000,10000000000000000000]:List Nat).map (AV.i .u64),true⟩:=⟨_,bJY _ bJS,rfl,rfl⟩
 obtain⟨h1,h2⟩:=h q hq
 rw[N,O]at h2
 obtain⟨cs,el,I,g2,g3,g4,P⟩:=h2.cells rfl
 obtain⟨fr,g1⟩:=aHD I
 have P:=P rfl
 rw[bJ2 (by rw[bKM,g2,P];exact bIK _)]at g4
 have Y:=aOu g4
 have M:w.var? PG "internal/strconv.uint64pow10" =some cs:=by
  unfold World.var?
  rw[show PG.globalNamed "internal/strconv.uint64pow10" =some 3 by kernel_rfl]
  simp only[Option.bind_some,g1]
 refine M.trans (congrArg some ?_)
 rw[←cs.toArray_toList,Y]
 exact congrArg List.toArray (by kernel_rfl)
theorem bAZ:aDN PG 35 yJ:=fun w vs ts R E C d=>by
 unfold yJ at d
 split at d
 ·next ng t=>
  rw[bIL]at d
  obtain⟨xs,hx,d⟩:=d
  split at d
  ·next hs=>
   cases d
   cases C with |cons y o=>
   cases o
   cases y with |ag y=>
   cases y with |cons y o=>
   cases o with |cons D o=>
   cases o
   cases y
   have W:xs.length<=9:=by rw[hs.1];exact lY (bIP hs.2 (by decide))
   obtain⟨A,c,rfl,S⟩:=aYj D hx (by omega)
   rw[hs.1]at S
   rw[←hs.1]at S
   have T:jS w (.slice A xs.length c) (aO (val xs)):=by rw[←hs.1];exact S
   refine(aWG (ng:=ng) T (by omega) hs.2 (aZG E)).mono ?_
   rintro e w' ⟨rfl,hx⟩
   exact⟨_,rfl,hx,.str _⟩
  ·cases d
 ·cases d
inductive PT
 |k (g:List TV->Option TV)
 |t (g:List TV->Option TV)
 |r (g:List TV->Option (List TV))
def PT.orc:PT->List TV->Option (TV×Bool)
 | .k g=>nW g
 | .t g=>nW g
 | .r g=>aE7 g
def PT.pr:PT->List AV->St->KS->OR
 | .k g=>mJ g
 | .t g=>yB g
 | .r g=>aCm g
def PT.ok(f:FuncId):PT->Prop
 | .k g=>aAz PG f g
 | .t g=>aDN PG f g
 | .r g=>aKB PG f g
theorem PT.ok_call{f:FuncId}{p:PT}(h:p.ok f):aAD PG f p.pr:=by
 cases p with
 |k g=>exact aNM h
 |t g=>exact aOB h
 |r g=>exact bCe h
theorem PT.callV{pr:cM}{f:FuncId}{p:PT}(B:pr f=some p.pr){vs:List TV}{R:TV}{own:Bool}(h:p.orc vs=some (R,own)):jT PG pr f vs R own:=by
 cases p with
 |k g=>exact aM3 B h
 |t g=>exact aLN B h
 |r g=>exact aYL B h
def tE(f:Nat):List (Nat×PT)->Option PT
 | []=>none
 |q::l=>bif Nat.beq q.1 f then some q.2 else tE f l
theorem aNf{f:Nat}:∀ {l:List (Nat×PT)} {p:PT},tE f l=some p->(f,p)∈l
 | q::l,p,h=>by
  unfold tE at h
  cases D:Nat.beq q.1 f with
  |true=>
   rw[D]at h
   cases h
   obtain rfl:=bJ0 D
   exact bJS
  |false=>rw[D]at h;exact bJY _ (aNf h)
def yA:List (Nat×PT):=[(29,.k aDR),(30,.t aE5),(31,.r aAs),(36,.k aAO),(37,.k aCb),(33,.k aDO),(35,.t yJ)]
theorem aMM{Q:Nat->PT->Prop}(h1:Q 29 (.k aDR))(h2:Q 30 (.t aE5))(Z:Q 31 (.r aAs))(h4:Q 36 (.k aAO))(h5:Q 37 (.k aCb))(h6:Q 33 (.k aDO))(h7:Q 35 (.t yJ)):∀f p,tE f yA=some p->Q f p:=fun f p h=>by
 have U:=aNf h
 unfold yA at U
 simp only[bJ4,Prod.mk.injEq,bKf,or_false]at U
 rcases U with ⟨rfl,rfl⟩|⟨rfl,rfl⟩|⟨rfl,rfl⟩|⟨rfl,rfl⟩|⟨rfl,rfl⟩|⟨rfl,rfl⟩|⟨rfl,rfl⟩
 ·exact h1
 ·exact h2
 ·exact Z
 ·exact h4
 ·exact h5
 ·exact h6
 ·exact h7
theorem aD9:∀f p,tE f yA=some p->(∃fn,PG.funcs[f]? =some fn/\fn.body≠none)/\cC f=false/\cC.prim f=true/\wR f=none/\(∀args,qB f args=none):=
 aMM (Q:=fun f _=>(∃fn,PG.funcs[f]? =some fn/\fn.body≠none)/\cC f=false/\cC.prim f=true/\wR f=none/\(∀args,qB f args=none))
  ⟨⟨_,(by kernel_rfl:PG.funcs[29]? =some f29),fun h=>by cases h⟩,by kernel_rfl,by kernel_rfl,rfl,fun _=>rfl⟩
  ⟨⟨_,(by kernel_rfl:PG.funcs[30]? =some f30),fun h=>by cases h⟩,by kernel_rfl,by kernel_rfl,rfl,fun _=>rfl⟩
  ⟨⟨_,(by kernel_rfl:PG.funcs[31]? =some f31),fun h=>by cases h⟩,by kernel_rfl,by kernel_rfl,rfl,fun _=>rfl⟩
  ⟨⟨_,(by kernel_rfl:PG.funcs[36]? =some f36),fun h=>by cases h⟩,by kernel_rfl,by kernel_rfl,rfl,fun _=>rfl⟩
  ⟨⟨_,(by kernel_rfl:PG.funcs[37]? =some f37),fun h=>by cases h⟩,by kernel_rfl,by kernel_rfl,rfl,fun _=>rfl⟩
  ⟨⟨_,(by kernel_rfl:PG.funcs[33]? =some f33),fun h=>by cases h⟩,by kernel_rfl,by kernel_rfl,rfl,fun _=>rfl⟩
  ⟨⟨_,(by kernel_rfl:PG.funcs[35]? =some f35),fun h=>by cases h⟩,by kernel_rfl,by kernel_rfl,rfl,fun _=>rfl⟩
theorem bED:∀f p,tE f yA=some p->p.ok f:=aMM (Q:=fun f p=>p.ok f) aXI bAG aWZ aYK aXw aWT bAZ
def qA:cN:=fun f args=>match tE f yA with |some p=>p.orc args|none=>qB f args
abbrev VZ:Nat->cN:=gG PG cC qA
def rF:cM:=fun f=>match tE f yA with |some p=>some p.pr|none=>wR f
theorem aRd:lE PG rF:=fun f p h=>by
 unfold rF at h
 split at h
 ·next X B=>cases h;exact⟨(aD9 f X B).1,PT.ok_call (bED f X B)⟩
 ·exact bGb f p h
theorem yz(n:Nat):nS (VY n) (VZ n):=aJ7 (fun f args r h=>by
 unfold qA
 split
 ·next p B=>rw[(aD9 f p B).2.2.2.2 args]at h;cases h
 ·exact h) (fun f args r h0 h1=>by
 unfold qA at h1
 split at h1
 ·next p B=>exact(aD9 f p B).2.2.1
 ·rw[h0]at h1;cases h1) n
theorem bCZ:∀f,cC f=true->rF f=none:=fun f h=>by
 unfold rF
 split
 ·next p B=>rw[(aD9 f p B).2.1]at h;cases h
 ·exact bD5 f h
theorem aR2:∀f,rF f≠none->cC.prim f=true:=fun f h=>by
 unfold rF at h
 split at h
 ·next p B=>exact(aD9 f p B).2.2.1
 ·exact bDW f h
theorem aQ6{pr:cM}(hu:pr 178=some (mJ vT))(hc:pr 130=some (yB yG))(h1:pr 93=none)(h2:pr 113=none):aCi PG pr qB:=fun f vs R own h=>by
 unfold qB at h
 cases hf:Nat.beq f 130 with
 |false=>rw[hf]at h;exact aJD hu h1 h2 f vs R own h
 |true=>
  rw[hf]at h
  obtain rfl:=bJ0 hf
  exact aLN hc h
theorem bGn:aCi PG rF qA:=fun f vs R own h=>by
 unfold qA at h
 split at h
 ·next p B=>exact PT.callV (by unfold rF;rw[B]) h
 ·exact aQ6 (by kernel_rfl) (by kernel_rfl) (by kernel_rfl) (by kernel_rfl) f vs R own h
theorem bHV(n:Nat):mK PG rF (VZ n):=aBO bGn (fun _ h=>aDo h) bCZ aR2 n
theorem aOF{n:Nat}{f:FuncId}{ts:List TV}{R:TV}{own:Bool}(h:VZ n f ts=some (R,own)){w:bQ9}(E:fX w){vs:List bQa}(C:cW w vs ts):
  Calls PG f vs.toArray w fun e w'=>∃v,e= .returned v/\Below w.heap.size w w'/\WT w' v (pM R own):=aHv aK8 aRd aJt (bHV n f ts R own h) E C
theorem aDC{f:FuncId}{args:List TV}{R:TV}(p:PT)(B:tE f yA=some p)(hc:Can args)(hs:bW args<=cK)(h:p.orc args=some (R,false)):CC (VZ (m+1)) f args R:=by
 refine .of hc hs ?_
 show gG PG cC qA (m+1) _ _=_
 unfold gG
 rw[show qA f args=some (R,false) by unfold qA;rw[B];exact h]
theorem aRO(s p:ByteArray):CC (VZ (m+1)) 29 [.str s,.str p] (.tp [.str ⟨(Lib.trimPrefix s.data.toList p.data.toList).toArray⟩,.b (Lib.hasPrefix s.data.toList p.data.toList)]):=
 aDC (.k aDR) rfl (Can.cons (cP.str _) (Can.cons (cP.str _) Can.nil)) (by simp only[bW,dA];decide) rfl
end
end Go.Proofs.YtmjoaipkaddkbaaGreatDoor.Ev
namespace Go.Proofs.YtmjoaipkaddkbaaGreatDoor
section
def mA(f:Nat):List Nat->Nat->List Nat×Nat
 | [],c=>([],c)
 |x::xs,c=>((c+x*f)%4294967296::(mA f xs ((c+x*f)/4294967296)).1,(mA f xs ((c+x*f)/4294967296)).2)
theorem aDv(f:Nat):∀(xs:List Nat) (c:Nat),(mA f xs c).1.length=xs.length
 | [],_=>rfl
 |x::xs,c=>by unfold mA;simp only[bIV,aDv f xs]
theorem aPX(f:Nat):∀(xs:List Nat) (c:Nat),bC (mA f xs c).1
 | [],_=>fun _ h=>by cases h
 |x::xs,c=>fun y hy=>by
  unfold mA at hy
  rcases bJ4.1 hy with rfl|hy
  ·exact bJa _ (by decide)
  ·exact aPX f xs _ y hy
theorem aRw(f:Nat):∀(xs:List Nat) (c:Nat),val (mA f xs c).1+4294967296^xs.length*(mA f xs c).2=val xs*f+c
 | [],c=>by simp [mA,val]
 | x::xs,c=>by
  have ih:=aRw f xs ((c+x*f)/4294967296)
  have l:=bK4 (c+x*f) 4294967296
  simp only[mA,val,bIV,bJ1]
  have i:(x+4294967296*val xs)*f=x*f+4294967296*(val xs*f):=by rw[bJp,bJ5]
  have j:4294967296^xs.length*4294967296*(mA f xs ((c+x*f)/4294967296)).2=4294967296*(4294967296^xs.length*(mA f xs ((c+x*f)/4294967296)).2):=by
   rw[bIX (4294967296^xs.length) 4294967296,bJ5]
  rw[i,j]
  omega
theorem aK9{f:Nat}:∀(xs:List Nat) (c:Nat),bC xs->c<f->(mA f xs c).2<f
 | [],_,_,h=>h
 |x::xs,c,a,h=>by
  unfold mA
  refine aK9 xs _ (fun y hy=>a y (bJY _ hy)) ?_
  have hx:=a x bJS
  rw[Nat.div_lt_iff_lt_mul (by decide)]
  have h1:x*f<=4294967295*f:=bJ8 f (by omega)
  have h2:f*4294967296=4294967295*f+f:=by rw[bIX];omega
  omega
theorem aQc(f:Nat):∀(xs:List Nat) (x c:Nat),mA f (xs++[x]) c=((mA f xs c).1++[((mA f xs c).2+x*f)%4294967296],((mA f xs c).2+x*f)/4294967296)
 | [],x,c=>rfl
 |y::xs,x,c=>by
  simp only[bJG,mA]
  rw[aQc f xs x]
theorem bBI{V f C:Nat}(h:C<f)(hf:f<=4294967296):(mA f (aO V) C).1++(if 0<(mA f (aO V) C).2 then [(mA f (aO V) C).2]else [])=aO (V*f+C):=by
 have g:=aRw f (aO V) C
 have a:=aPX f (aO V) C
 have hn:=aDv f (aO V) C
 have hc:=aK9 (aO V) C (cV V) h
 rw[cO]at g
 generalize m:mA f (aO V) C=r at*
 obtain⟨ys,c⟩:=r
 simp only at g a hn hc ⊢
 by_cases h0:0<c
 ·rw[if_pos h0]
  have k:bC (ys++[c]):=fun y hy=>by
   rcases bJE.1 hy with hy|hy
   ·exact a y hy
   ·rw[bJZ]at hy;omega
  have e:=iB k
  rw[aL4 ys (by omega)]at e
  rw[e,aCG,hn]
  exact congrArg aO (by simp only[val];omega)
 ·rw[if_neg h0,bK3]
  obtain rfl:c=0:=by omega
  have b:val ys=V*f+C:=by omega
  have e:=iB a
  rw[b]at e
  have d:V<=V*f+C:=by
   have:=Nat.mul_le_mul_left V (show 1<=f by omega)
   omega
  have n:=oO d
  have h1:=qC ys
  rw[e]at h1
  have h2:=mW ys
  rw[e,bJ2 (by omega)]at h2
  exact h2.symm
end
end Go.Proofs.YtmjoaipkaddkbaaGreatDoor
namespace Go.Proofs.YtmjoaipkaddkbaaGreatDoor.Ev
section
variable {m:Nat}
def bs(l:List UInt8):ByteArray:=⟨l.toArray⟩
theorem uT(l:List UInt8):(bs l).size=l.length:=by
 show l.toArray.size=_
 exact bKm
theorem aDd(l:List UInt8):(bs l).data.toList=l:=rfl
theorem aEN(l:List UInt8):(bs l).toList=l:=by
 have h:=Lib.extract_toList (bs l) 0 (bs l).size
 have e:(bs l).extract 0 (bs l).size=bs l:=ByteArray.extract_zero_size
 rw[e,uT,Nat.sub_zero,List.drop_zero,aDd,bJ2 (bIK _)]at h
 exact h
theorem aTr{l:List UInt8}{j:Nat}(h:j<l.length):tH (bs l) j=some (l.getD j 0).toNat:=by
 unfold tH
 have e:(bs l)[j]? =some (l.getD j 0):=by
  rw[getElem?_pos (bs l) j (by rw[uT];exact h)]
  show some (l.toArray[j])=_
  simp [h]
 rw[e]
theorem bFm{l:List UInt8}{a b:Nat}:(bs l).extract a b=bs ((l.drop a).take (b-a)):=by
 apply ByteArray.ext
 apply Array.ext'
 exact Lib.extract_data (bs l) a b
theorem aGO:cU PG 9=none:=by kernel_rfl
theorem aGP:nC PG 9=true:=by kernel_rfl
theorem aRY{l:List UInt8}:jU PG 9 (.str (bs l))=some (.int .i64 (l.length:Nat)):=by
 simp only[jU]
 rw[if_pos ⟨aGO,aGP⟩,uT]
theorem aPV{et:fO}{l:List UInt8}:bX et .eql (.str (bs l)) (.str ⟨#[]⟩)=some (.b (decide (l=[]))):=by
 simp only[bX]
 rw[aEN,show(⟨#[]⟩:ByteArray).toList=([]:List UInt8)from aEN []]
 cases l<;>rfl
theorem TS:type_of%(And.intro @aGO (And.intro @aGP (And.intro @aRY (@aPV)))):=(And.intro @aGO (And.intro @aGP (And.intro @aRY (@aPV))))
def dX(z:Int):List UInt8:=if z<0 then 45::Lib.decDigits z.natAbs else Lib.decDigits z.natAbs
theorem aR1(z:Int):Lib.trimPrefix (dX z) [45]=Lib.decDigits z.natAbs/\Lib.hasPrefix (dX z) [45]=decide (z<0):=by
 unfold dX
 by_cases h:z<0
 ·rw[if_pos h,decide_eq_true h]
  exact⟨aL8 [45] (Lib.decDigits z.natAbs),aHo [45] (Lib.decDigits z.natAbs)⟩
 ·rw[if_neg h,decide_eq_false h]
  have c:Lib.hasPrefix (Lib.decDigits z.natAbs) [45]=false:=by
   cases d:Lib.decDigits z.natAbs with
   |nil=>exact absurd d (aDq _)
   |cons b l=>
    have f:=aI8 z.natAbs b (by rw[d];exact bJS)
    unfold Lib.hasPrefix
    simp only[List.isPrefixOf,Bool.and_true]
    rw[beq_eq_false_iff_ne]
    intro e
    have:b.toNat=45:=by rw[←e];rfl
    omega
  exact⟨by unfold Lib.trimPrefix;rw[c];rfl,c⟩
end
end Go.Proofs.YtmjoaipkaddkbaaGreatDoor.Ev