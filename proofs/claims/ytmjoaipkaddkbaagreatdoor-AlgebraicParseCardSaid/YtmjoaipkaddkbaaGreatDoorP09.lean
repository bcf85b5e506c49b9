/- Part of a proof. -/
import Derived.Shelf.Strings.Builder1
import Derived.Shelf.Strings.Builder2
import Derived.Shelf.Strings.OnBuilder
import Derived.Shelf.Small.Bits
import Derived.Shelf.Small.Wraps
import Derived.Shelf.Strings.BuilderF
import Derived.Shelf.Strings.BuilderK
import Derived.Shelf.Strings.Builder2Cap
import Derived.Shelf.Strconv.Atoi
import Derived.Shelf.Strconv.Itoa0
import Derived.Shelf.Strconv.Itoa1
import Derived.Shelf.LaysM
import Derived.Shelf.Strconv.Itoa2
import Derived.Shelf.Strconv.Itoa3
import Derived.Shelf.Strconv.AtoiErrFast
import Derived.Shelf.Strconv.ParseIntEmpty
import Derived.Shelf.Strconv.AtoiFail
import Derived.Shelf.Strconv.Clone
import Derived.Shelf.Strconv.SyntaxError
import Derived.Shelf.LaysC
import Derived.Shelf.Strconv.ToError
import Derived.Shelf.Strconv.AtoiErr
import Derived.Shelf.Strconv.ErrVar
import Derived.Shelf.Strconv.Lower
import Derived.Shelf.Strconv.ParseUint10
import Derived.Shelf.Strconv.ParseUint10Empty
import Derived.Shelf.Strconv.ParseUint10Any
import Derived.Shelf.Strconv.ParseInt10
import Derived.Shelf.Strconv.AtoiLong
import Derived.Shelf.Strconv.AtoiInnerAll
import Derived.Shelf.Strconv.RangeError
import Derived.Shelf.Strconv.ToErrorRange
import Derived.Shelf.Strconv.AtoiAll
import Derived.Shelf.Strings.Search1
import Derived.Shelf.Strings.Search2
import Derived.Shelf.Strings.Search3
import Derived.Shelf.Strings.Cut
import Derived.Shelf.Strings.Count
import Derived.Shelf.Strings.Shaped
import Derived.Shelf.Strings.Prefix
import Derived.Shelf.Strings.Split
import Derived.Shelf.Strings.SplitShaped
import Derived.Shelf.Unicode.Decode
import Derived.Shelf.Strings.RuneCount
import Derived.Shelf.Strings.Explode
import Derived.Shelf.Bits.Mul64
import Derived.Shelf.Strings.Repeat
import Derived.Shelf.Unicode.DecodeSlow
import Derived.Shelf.Strings.BuilderCap
import Derived.Test.YtmjoaipkaddkbaaGreatDoorProg
noncomputable section
open Go
open Go.Proofs.Tryz
namespace Go.Proofs.YtmjoaipkaddkbaaGreatDoor
open Go.Shelf
def bOC:Go.Shelf.Ren:=⟨fun |156=>36|165=>101|166=>98|169=>100|240=>183|241=>189|276=>254|277=>261|n=>n,fun |31=>61|9=>9|3=>3|4=>4|0=>0|20=>20|72=>121|76=>67|70=>118|37=>119|75=>66|127=>190|164=>230|5=>5|80=>128|n=>n,fun |n=>n⟩
theorem bOB:Go.Proofs.Lays.n156 prog bOC:={
 mixed:=by kernel_rfl
 f156:=func36.trans (congrArg some (by kernel_rfl))
 f165:=func101.trans (congrArg some (by kernel_rfl))
 f166:=func98.trans (congrArg some (by kernel_rfl))
 f169:=func100.trans (congrArg some (by kernel_rfl))
 f240:=func183.trans (congrArg some (by kernel_rfl))
 f241:=func189.trans (congrArg some (by kernel_rfl))
 f276:=func254.trans (congrArg some (by kernel_rfl))
 f277:=func261.trans (congrArg some (by kernel_rfl))
 t0:=underlying0
 a0:=isAgg0
 z0:=sizeOf0
 v0:=zeroValue0
 t3:=underlying3
 a3:=isAgg3
 z3:=sizeOf3
 v3:=zeroValue3
 t4:=underlying4
 a4:=isAgg4
 z4:=sizeOf4
 v4:=zeroValue4
 t9:=underlying9
 a9:=isAgg9
 z9:=sizeOf9
 v9:=zeroValue9
 t20:=underlying20
 a20:=isAgg20
 z20:=sizeOf20
 v20:=zeroValue20
 t31:=underlying61
 a31:=isAgg61
 z31:=sizeOf61
 v31:=zeroValue61
 t37:=underlying119
 a37:=isAgg119
 z37:=sizeOf119
 v37:=zeroValue119
 t70:=underlying118
 a70:=isAgg118
 z70:=sizeOf118
 v70:=zeroValue118
 t72:=underlying121
 a72:=isAgg121
 z72:=sizeOf121
 v72:=zeroValue121
 t75:=underlying66
 a75:=isAgg66
 z75:=sizeOf66
 v75:=zeroValue66
 t76:=underlying67
 a76:=isAgg67
 z76:=sizeOf67
 v76:=zeroValue67
 t127:=underlying190
 a127:=isAgg190
 z127:=sizeOf190
 v127:=zeroValue190
 t164:=underlying230
 a164:=isAgg230
 z164:=sizeOf230
 v164:=zeroValue230 }
theorem bNt:Builder.Extra prog bOC:={
 sizeBuilder:=by kernel_rfl
 liesBuilder:=by kernel_rfl
 t5:=underlying5
 a5:=isAgg5
 z5:=sizeOf5
 v5:=zeroValue5
 infoByte:=by kernel_rfl
 cellsByte:=by kernel_rfl
 sizeByte:=by kernel_rfl
 neB5:=by decide }
open Go.RowKit in
theorem bQC(bk o c:Nat)(xs:List ByteArray)(sep:ByteArray)(w:World)(hcells:∀(j:Nat) x,xs[j]? =some x->w.cell? ⟨bk,o+j,none⟩=some (.string x))(hbk:bk<w.heap.size)(hN:xs.length<=140737488355328)(hcap:xs.length<=c)(hlen:(Lib.join (xs.map (·.data.toList)) sep.data.toList).length<=140737488355328):
  Calls prog 36 #[.slice (some ⟨bk,o,none⟩) xs.length c,.string sep] w fun e w'=>e= .returned (.string ⟨(Lib.join (xs.map (·.data.toList)) sep.data.toList).toArray⟩)/\Below w.heap.size w w':=Any.strings_Join bOB bNt bk o c xs sep w hcells hbk hN hcap hlen
def bOi:Go.Shelf.Ren:=⟨fun |103=>29|210=>76|206=>165|n=>n,fun |9=>9|4=>4|24=>57|3=>3|n=>n,fun |n=>n⟩
theorem bOh:Go.Proofs.Lays.n103 prog bOi:={
 mixed:=by kernel_rfl
 f103:=func29.trans (congrArg some (by kernel_rfl))
 f206:=func165.trans (congrArg some (by kernel_rfl))
 f210:=func76.trans (congrArg some (by kernel_rfl))
 t3:=underlying3
 a3:=isAgg3
 z3:=sizeOf3
 v3:=zeroValue3
 t4:=underlying4
 a4:=isAgg4
 z4:=sizeOf4
 v4:=zeroValue4
 t9:=underlying9
 a9:=isAgg9
 z9:=sizeOf9
 v9:=zeroValue9
 t24:=underlying57
 a24:=isAgg57
 z24:=sizeOf57
 v24:=zeroValue57 }
open Go.RowKit in
theorem bQw(s p:ByteArray)(w:World):
  Calls prog 29 #[.string s,.string p] w fun e w'=>e= .returned (.tuple #[.string ⟨(Lib.trimPrefix s.data.toList p.data.toList).toArray⟩,.bool (Lib.hasPrefix s.data.toList p.data.toList)])/\w'=w:=Any.strings_CutPrefix bOh s p w
def bOM:Go.Shelf.Ren:=⟨fun |172=>33|244=>80|245=>81|247=>170|279=>171|280=>172|281=>173|282=>174|287=>241|316=>242|171=>37|205=>243|321=>286|322=>287|243=>102|246=>190|283=>255|284=>256|285=>257|286=>258|129=>291|317=>290|318=>292|319=>293|320=>294|337=>302|338=>303|n=>n,fun |9=>9|3=>3|75=>66|76=>67|4=>4|5=>5|167=>176|37=>119|0=>0|85=>177|2=>2|168=>179|53=>103|175=>218|46=>114|210=>222|127=>190|145=>262|143=>260|21=>21|171=>232|173=>235|212=>265|51=>100|20=>20|213=>266|232=>278|233=>279|80=>128|n=>n,fun |15=>1|16=>2|17=>3|18=>6|19=>7|n=>n⟩
def bPs:Go.Shelf.Ren:=⟨fun |283=>255|n=>n,fun |3=>3|9=>9|4=>4|n=>n,fun |n=>n⟩
theorem bPr:Go.Proofs.Lays.n283 prog bPs:={
 mixed:=by kernel_rfl
 f283:=func255.trans (congrArg some (by kernel_rfl))
 t3:=underlying3
 a3:=isAgg3
 z3:=sizeOf3
 v3:=zeroValue3
 t4:=underlying4
 a4:=isAgg4
 z4:=sizeOf4
 v4:=zeroValue4
 t9:=underlying9
 a9:=isAgg9
 z9:=sizeOf9
 v9:=zeroValue9 }
def bQc:Go.Shelf.Ren:=⟨fun |284=>256|129=>291|317=>290|318=>292|n=>n,fun |53=>103|3=>3|212=>265|0=>0|4=>4|46=>114|5=>5|9=>9|n=>n,fun |17=>3|n=>n⟩
theorem bQb:Go.Proofs.LaysM.n284 prog bQc:={
 mixed:=by kernel_rfl
 f129:=func291.trans (congrArg some (by kernel_rfl))
 f284:=func256.trans (congrArg some (by kernel_rfl))
 f317:=func290.trans (congrArg some (by kernel_rfl))
 f318:=func292.trans (congrArg some (by kernel_rfl))
 t0:=underlying0
 a0:=isAgg0
 z0:=sizeOf0
 v0:=zeroValue0
 t3:=underlying3
 a3:=isAgg3
 z3:=sizeOf3
 v3:=zeroValue3
 t4:=underlying4
 a4:=isAgg4
 z4:=sizeOf4
 v4:=zeroValue4
 t5:=underlying5
 a5:=isAgg5
 z5:=sizeOf5
 v5:=zeroValue5
 t9:=underlying9
 a9:=isAgg9
 z9:=sizeOf9
 v9:=zeroValue9
 t46:=underlying114
 a46:=isAgg114
 z46:=sizeOf114
 v46:=zeroValue114
 t53:=underlying103
 a53:=isAgg103
 z53:=sizeOf103
 v53:=zeroValue103
 t212:=underlying265
 a212:=isAgg265
 z212:=sizeOf265
 v212:=zeroValue265
 g17:=by kernel_rfl
 i0:=by kernel_rfl
 i3:=by kernel_rfl
 i4:=by kernel_rfl
 i5:=by kernel_rfl
 i9:=by kernel_rfl
 i46:=by kernel_rfl
 i53:=by kernel_rfl
 i212:=by kernel_rfl
 m17:=by kernel_rfl }
def bPu:Go.Shelf.Ren:=⟨fun |285=>257|n=>n,fun |37=>119|53=>103|3=>3|4=>4|51=>100|9=>9|5=>5|0=>0|n=>n,fun |n=>n⟩
theorem bPt:Go.Proofs.Lays.n285 prog bPu:={
 mixed:=by kernel_rfl
 f285:=func257.trans (congrArg some (by kernel_rfl))
 t0:=underlying0
 a0:=isAgg0
 z0:=sizeOf0
 v0:=zeroValue0
 t3:=underlying3
 a3:=isAgg3
 z3:=sizeOf3
 v3:=zeroValue3
 t4:=underlying4
 a4:=isAgg4
 z4:=sizeOf4
 v4:=zeroValue4
 t5:=underlying5
 a5:=isAgg5
 z5:=sizeOf5
 v5:=zeroValue5
 t9:=underlying9
 a9:=isAgg9
 z9:=sizeOf9
 v9:=zeroValue9
 t37:=underlying119
 a37:=isAgg119
 z37:=sizeOf119
 v37:=zeroValue119
 t51:=underlying100
 a51:=isAgg100
 z51:=sizeOf100
 v51:=zeroValue100
 t53:=underlying103
 a53:=isAgg103
 z53:=sizeOf103
 v53:=zeroValue103 }
def bQ6:Go.Shelf.Ren:=⟨fun |246=>190|283=>255|284=>256|285=>257|286=>258|129=>291|317=>290|318=>292|319=>293|320=>294|337=>302|338=>303|n=>n,fun |2=>2|3=>3|9=>9|4=>4|171=>232|0=>0|53=>103|37=>119|5=>5|173=>235|212=>265|51=>100|20=>20|213=>266|46=>114|232=>278|233=>279|n=>n,fun |17=>3|18=>6|19=>7|n=>n⟩
def bQ4:Go.Shelf.Ren:=⟨fun |243=>102|246=>190|283=>255|284=>256|285=>257|286=>258|129=>291|317=>290|318=>292|319=>293|320=>294|337=>302|338=>303|n=>n,fun |3=>3|9=>9|2=>2|4=>4|171=>232|0=>0|53=>103|37=>119|5=>5|173=>235|212=>265|51=>100|20=>20|213=>266|46=>114|232=>278|233=>279|n=>n,fun |17=>3|18=>6|19=>7|n=>n⟩
def bPY:Go.Shelf.Ren:=⟨fun |171=>37|243=>102|246=>190|283=>255|284=>256|285=>257|286=>258|129=>291|317=>290|318=>292|319=>293|320=>294|337=>302|338=>303|n=>n,fun |3=>3|9=>9|2=>2|4=>4|171=>232|0=>0|53=>103|37=>119|5=>5|173=>235|212=>265|51=>100|20=>20|213=>266|46=>114|232=>278|233=>279|n=>n,fun |17=>3|18=>6|19=>7|n=>n⟩
def bOK:Go.Shelf.Ren:=⟨fun |171=>37|243=>102|246=>190|283=>255|284=>256|285=>257|286=>258|129=>291|317=>290|318=>292|319=>293|320=>294|337=>302|338=>303|n=>n,fun |3=>3|9=>9|2=>2|4=>4|171=>232|0=>0|53=>103|37=>119|5=>5|173=>235|212=>265|51=>100|20=>20|213=>266|46=>114|232=>278|233=>279|n=>n,fun |17=>3|18=>6|19=>7|n=>n⟩
theorem bOJ:Go.Proofs.Lays.n171 prog bOK:={
 mixed:=by kernel_rfl
 f129:=func291.trans (congrArg some (by kernel_rfl))
 f171:=func37.trans (congrArg some (by kernel_rfl))
 f243:=func102.trans (congrArg some (by kernel_rfl))
 f246:=func190.trans (congrArg some (by kernel_rfl))
 f283:=func255.trans (congrArg some (by kernel_rfl))
 f284:=func256.trans (congrArg some (by kernel_rfl))
 f285:=func257.trans (congrArg some (by kernel_rfl))
 f286:=func258.trans (congrArg some (by kernel_rfl))
 f317:=func290.trans (congrArg some (by kernel_rfl))
 f318:=func292.trans (congrArg some (by kernel_rfl))
 f319:=func293.trans (congrArg some (by kernel_rfl))
 f320:=func294.trans (congrArg some (by kernel_rfl))
 f337:=func302.trans (congrArg some (by kernel_rfl))
 f338:=func303.trans (congrArg some (by kernel_rfl))
 t0:=underlying0
 a0:=isAgg0
 z0:=sizeOf0
 v0:=zeroValue0
 t2:=underlying2
 a2:=isAgg2
 z2:=sizeOf2
 v2:=zeroValue2
 t3:=underlying3
 a3:=isAgg3
 z3:=sizeOf3
 v3:=zeroValue3
 t4:=underlying4
 a4:=isAgg4
 z4:=sizeOf4
 v4:=zeroValue4
 t5:=underlying5
 a5:=isAgg5
 z5:=sizeOf5
 v5:=zeroValue5
 t9:=underlying9
 a9:=isAgg9
 z9:=sizeOf9
 v9:=zeroValue9
 t20:=underlying20
 a20:=isAgg20
 z20:=sizeOf20
 v20:=zeroValue20
 t37:=underlying119
 a37:=isAgg119
 z37:=sizeOf119
 v37:=zeroValue119
 t46:=underlying114
 a46:=isAgg114
 z46:=sizeOf114
 v46:=zeroValue114
 t51:=underlying100
 a51:=isAgg100
 z51:=sizeOf100
 v51:=zeroValue100
 t53:=underlying103
 a53:=isAgg103
 z53:=sizeOf103
 v53:=zeroValue103
 t171:=underlying232
 a171:=isAgg232
 z171:=sizeOf232
 v171:=zeroValue232
 t173:=underlying235
 a173:=isAgg235
 z173:=sizeOf235
 v173:=zeroValue235
 t212:=underlying265
 a212:=isAgg265
 z212:=sizeOf265
 v212:=zeroValue265
 t213:=underlying266
 a213:=isAgg266
 z213:=sizeOf266
 t232:=underlying278
 a232:=isAgg278
 z232:=sizeOf278
 v232:=zeroValue278
 t233:=underlying279
 a233:=isAgg279
 z233:=sizeOf279
 v233:=zeroValue279
 g17:=by kernel_rfl
 g18:=by kernel_rfl
 g19:=by kernel_rfl }
open Go.RowKit Go.Sort Go.Lib in
theorem bQm(i:Nat)(hi:i<100)(w:World):
  Calls prog 37 #[.int .i64 i] w fun e w'=>e= .returned (.string ⟨(Lib.decDigits i).toArray⟩)/\w'=w:=Any.strconv_Itoa_small bOJ i hi w
def bPI:Go.Shelf.Ren:=⟨fun |172=>33|244=>80|245=>81|247=>170|279=>171|280=>172|281=>173|282=>174|287=>241|316=>242|171=>37|205=>243|321=>286|322=>287|243=>102|246=>190|283=>255|284=>256|285=>257|286=>258|129=>291|317=>290|318=>292|319=>293|320=>294|337=>302|338=>303|n=>n,fun |9=>9|3=>3|75=>66|76=>67|4=>4|5=>5|167=>176|37=>119|0=>0|85=>177|2=>2|168=>179|53=>103|175=>218|46=>114|210=>222|127=>190|145=>262|143=>260|21=>21|171=>232|173=>235|212=>265|51=>100|20=>20|213=>266|232=>278|233=>279|80=>128|n=>n,fun |15=>1|16=>2|17=>3|18=>6|19=>7|n=>n⟩
theorem bPH:Go.Proofs.LaysC.n172 prog bPI:={
 mixed:=by kernel_rfl
 f129:=func291.trans (congrArg some (by kernel_rfl))
 f171:=func37.trans (congrArg some (by kernel_rfl))
 f172:=func33.trans (congrArg some (by kernel_rfl))
 f205:=func243.trans (congrArg some (by kernel_rfl))
 f243:=func102.trans (congrArg some (by kernel_rfl))
 f244:=func80.trans (congrArg some (by kernel_rfl))
 f245:=func81.trans (congrArg some (by kernel_rfl))
 f246:=func190.trans (congrArg some (by kernel_rfl))
 f247:=func170.trans (congrArg some (by kernel_rfl))
 f279:=func171.trans (congrArg some (by kernel_rfl))
 f280:=func172.trans (congrArg some (by kernel_rfl))
 f281:=func173.trans (congrArg some (by kernel_rfl))
 f282:=func174.trans (congrArg some (by kernel_rfl))
 f283:=func255.trans (congrArg some (by kernel_rfl))
 f284:=func256.trans (congrArg some (by kernel_rfl))
 f285:=func257.trans (congrArg some (by kernel_rfl))
 f286:=func258.trans (congrArg some (by kernel_rfl))
 f287:=func241.trans (congrArg some (by kernel_rfl))
 f316:=func242.trans (congrArg some (by kernel_rfl))
 f317:=func290.trans (congrArg some (by kernel_rfl))
 f318:=func292.trans (congrArg some (by kernel_rfl))
 f319:=func293.trans (congrArg some (by kernel_rfl))
 f320:=func294.trans (congrArg some (by kernel_rfl))
 f321:=func286.trans (congrArg some (by kernel_rfl))
 f322:=func287.trans (congrArg some (by kernel_rfl))
 f337:=func302.trans (congrArg some (by kernel_rfl))
 f338:=func303.trans (congrArg some (by kernel_rfl))
 t0:=underlying0
 a0:=isAgg0
 z0:=sizeOf0
 v0:=zeroValue0
 t2:=underlying2
 a2:=isAgg2
 z2:=sizeOf2
 v2:=zeroValue2
 t3:=underlying3
 a3:=isAgg3
 z3:=sizeOf3
 v3:=zeroValue3
 t4:=underlying4
 a4:=isAgg4
 z4:=sizeOf4
 v4:=zeroValue4
 t5:=underlying5
 a5:=isAgg5
 z5:=sizeOf5
 v5:=zeroValue5
 t9:=underlying9
 a9:=isAgg9
 z9:=sizeOf9
 v9:=zeroValue9
 t20:=underlying20
 a20:=isAgg20
 z20:=sizeOf20
 v20:=zeroValue20
 t21:=underlying21
 a21:=isAgg21
 z21:=sizeOf21
 v21:=zeroValue21
 t37:=underlying119
 a37:=isAgg119
 z37:=sizeOf119
 v37:=zeroValue119
 t46:=underlying114
 a46:=isAgg114
 z46:=sizeOf114
 v46:=zeroValue114
 t51:=underlying100
 a51:=isAgg100
 z51:=sizeOf100
 v51:=zeroValue100
 t53:=underlying103
 a53:=isAgg103
 z53:=sizeOf103
 v53:=zeroValue103
 t75:=underlying66
 a75:=isAgg66
 z75:=sizeOf66
 v75:=zeroValue66
 t76:=underlying67
 a76:=isAgg67
 z76:=sizeOf67
 v76:=zeroValue67
 t85:=underlying177
 a85:=isAgg177
 z85:=sizeOf177
 v85:=zeroValue177
 t127:=underlying190
 a127:=isAgg190
 z127:=sizeOf190
 v127:=zeroValue190
 t143:=underlying260
 a143:=isAgg260
 z143:=sizeOf260
 v143:=zeroValue260
 t145:=underlying262
 a145:=isAgg262
 z145:=sizeOf262
 v145:=zeroValue262
 t167:=underlying176
 a167:=isAgg176
 z167:=sizeOf176
 v167:=zeroValue176
 t168:=underlying179
 a168:=isAgg179
 z168:=sizeOf179
 v168:=zeroValue179
 t171:=underlying232
 a171:=isAgg232
 z171:=sizeOf232
 v171:=zeroValue232
 t173:=underlying235
 a173:=isAgg235
 z173:=sizeOf235
 v173:=zeroValue235
 t175:=underlying218
 a175:=isAgg218
 z175:=sizeOf218
 v175:=zeroValue218
 t210:=underlying222
 a210:=isAgg222
 z210:=sizeOf222
 v210:=zeroValue222
 t212:=underlying265
 a212:=isAgg265
 z212:=sizeOf265
 v212:=zeroValue265
 t213:=underlying266
 a213:=isAgg266
 z213:=sizeOf266
 t232:=underlying278
 a232:=isAgg278
 z232:=sizeOf278
 v232:=zeroValue278
 t233:=underlying279
 a233:=isAgg279
 z233:=sizeOf279
 v233:=zeroValue279
 g15:=by kernel_rfl
 g16:=by kernel_rfl
 g17:=by kernel_rfl
 g18:=by kernel_rfl
 g19:=by kernel_rfl
 t80:=underlying128
 a80:=isAgg128
 z80:=sizeOf128
 v80:=zeroValue128
 i0:=by kernel_rfl
 i2:=by kernel_rfl
 i3:=by kernel_rfl
 i4:=by kernel_rfl
 i5:=by kernel_rfl
 i9:=by kernel_rfl
 i20:=by kernel_rfl
 i21:=by kernel_rfl
 i37:=by kernel_rfl
 i46:=by kernel_rfl
 i51:=by kernel_rfl
 i53:=by kernel_rfl
 i75:=by kernel_rfl
 i76:=by kernel_rfl
 i80:=by kernel_rfl
 i85:=by kernel_rfl
 i127:=by kernel_rfl
 i143:=by kernel_rfl
 i145:=by kernel_rfl
 i167:=by kernel_rfl
 i168:=by kernel_rfl
 i171:=by kernel_rfl
 i173:=by kernel_rfl
 i175:=by kernel_rfl
 i210:=by kernel_rfl
 i212:=by kernel_rfl
 i232:=by kernel_rfl
 i233:=by kernel_rfl
 m15:=by kernel_rfl
 m16:=by kernel_rfl
 m17:=by kernel_rfl
 m18:=by kernel_rfl
 m19:=by kernel_rfl
 c0:=by kernel_rfl
 c2:=by kernel_rfl
 c3:=by kernel_rfl
 c4:=by kernel_rfl
 c5:=by kernel_rfl
 c9:=by kernel_rfl
 c20:=by kernel_rfl
 c21:=by kernel_rfl
 c37:=by kernel_rfl
 c46:=by kernel_rfl
 c51:=by kernel_rfl
 c53:=by kernel_rfl
 c75:=by kernel_rfl
 c76:=by kernel_rfl
 c80:=by kernel_rfl
 c85:=by kernel_rfl
 c127:=by kernel_rfl
 c143:=by kernel_rfl
 c145:=by kernel_rfl
 c167:=by kernel_rfl
 c168:=by kernel_rfl
 c171:=by kernel_rfl
 c173:=by kernel_rfl
 c175:=by kernel_rfl
 c210:=by kernel_rfl
 c212:=by kernel_rfl
 c213:=by kernel_rfl
 c232:=by kernel_rfl
 c233:=by kernel_rfl }
open Go.RowKit in
theorem bQi(s:ByteArray)(hmax:s.size<=9223372036854775806)(v:Int)(h:Lib.atoiAll s.data.toList= .ok v)(w:World):
  Calls prog 33 #[.string s] w fun e w'=>e= .returned (.tuple #[.int .i64 v,.nilIface])/\(w'=w\/∃t,w'=Lib.bytesWorld w 5 t):=Any.strconv_Atoi_ok bPH s hmax v h w
open Go.RowKit in
theorem bQk(s:ByteArray)(hlim:s.size<=281474976710656)(h:Lib.atoiAll s.data.toList= Lib.atoiAll [])(ev:Value)(w:World)(hv:w.cell? ⟨1,0,none⟩=some ev)(hev:ev= .nilIface\/∃te pe,ev= .iface te pe):
  Calls prog 33 #[.string s] w fun e w'=>∃N,e= .returned (.tuple #[.int .i64 (0),.iface 179 (.pointer (some ⟨N,0,none⟩))])/\w.heap.size<=N/\w'.heap[N]? =some (.cells #[.string ⟨#[65,116,111,105]⟩,.string s,ev] 222 (0,0))/\Below w.heap.size w w':=Any.strconv_Atoi_syntax bPH s hlim h ev w hv hev
open Go.RowKit in
theorem bQj(s:ByteArray)(hlim:s.size<=281474976710656)(h:Lib.atoiAll s.data.toList= .range)(ev:Value)(w:World)(hv:w.cell? ⟨2,0,none⟩=some ev)(hev:ev= .nilIface\/∃te pe,ev= .iface te pe):
  Calls prog 33 #[.string s] w fun e w'=>∃N,e= .returned (.tuple #[.int .i64 (Lib.atoiSat s.data.toList),.iface 179 (.pointer (some ⟨N,0,none⟩))])/\w.heap.size<=N/\w'.heap[N]? =some (.cells #[.string ⟨#[65,116,111,105]⟩,.string s,ev] 222 (0,0))/\Below w.heap.size w w':=Any.strconv_Atoi_range bPH s hlim h ev w hv hev
def bP2:Go.Shelf.Ren:=⟨fun |219=>166|217=>234|225=>235|224=>236|267=>237|266=>283|314=>284|n=>n,fun |9=>9|3=>3|4=>4|5=>5|46=>114|146=>237|51=>100|n=>n,fun |1=>0|n=>n⟩
def bOy:Go.Shelf.Ren:=⟨fun |145=>30|220=>77|219=>166|217=>234|225=>235|224=>236|267=>237|266=>283|314=>284|n=>n,fun |9=>9|4=>4|59=>59|3=>3|5=>5|46=>114|146=>237|51=>100|n=>n,fun |1=>0|n=>n⟩
theorem bOx:Go.Proofs.Lays.n145 prog bOy:={
 mixed:=by kernel_rfl
 f145:=func30.trans (congrArg some (by kernel_rfl))
 f217:=func234.trans (congrArg some (by kernel_rfl))
 f219:=func166.trans (congrArg some (by kernel_rfl))
 f220:=func77.trans (congrArg some (by kernel_rfl))
 f224:=func236.trans (congrArg some (by kernel_rfl))
 f225:=func235.trans (congrArg some (by kernel_rfl))
 f266:=func283.trans (congrArg some (by kernel_rfl))
 f267:=func237.trans (congrArg some (by kernel_rfl))
 f314:=func284.trans (congrArg some (by kernel_rfl))
 t3:=underlying3
 a3:=isAgg3
 z3:=sizeOf3
 v3:=zeroValue3
 t4:=underlying4
 a4:=isAgg4
 z4:=sizeOf4
 v4:=zeroValue4
 t5:=underlying5
 a5:=isAgg5
 z5:=sizeOf5
 v5:=zeroValue5
 t9:=underlying9
 a9:=isAgg9
 z9:=sizeOf9
 v9:=zeroValue9
 t46:=underlying114
 a46:=isAgg114
 z46:=sizeOf114
 v46:=zeroValue114
 t51:=underlying100
 a51:=isAgg100
 z51:=sizeOf100
 v51:=zeroValue100
 t59:=underlying59
 a59:=isAgg59
 z59:=sizeOf59
 v59:=zeroValue59
 t146:=underlying237
 a146:=isAgg237
 z146:=sizeOf237
 v146:=zeroValue237
 g1:=by kernel_rfl }
open Go.RowKit Go.Lib in
theorem bQv(s sep:ByteArray)(m:Int)(w:World)(hs:s.size<4294967281)(hm:w.cell? ⟨0,0,none⟩=some (.int .i64 m)):
  Calls prog 30 #[.string s,.string sep] w fun e w'=>e= .returned (.tuple #[.string ⟨(Lib.cut s.data.toList sep.data.toList).1.toArray⟩,.string ⟨(Lib.cut s.data.toList sep.data.toList).2.1.toArray⟩,.bool (Lib.cut s.data.toList sep.data.toList).2.2])/\∃n,w'=w.drewN n:=Any.strings_Cut bOx s sep m w hs hm
def bP6:Go.Shelf.Ren:=⟨fun |221=>78|268=>167|138=>168|143=>169|195=>238|197=>239|218=>240|219=>166|260=>285|217=>234|225=>235|224=>236|267=>237|266=>283|314=>284|n=>n,fun |9=>9|3=>3|31=>61|4=>4|0=>0|105=>216|21=>21|5=>5|46=>114|119=>273|139=>276|138=>275|146=>237|51=>100|n=>n,fun |1=>0|3=>4|4=>5|n=>n⟩
def bOA:Go.Shelf.Ren:=⟨fun |146=>31|221=>78|268=>167|138=>168|143=>169|195=>238|197=>239|218=>240|219=>166|260=>285|217=>234|225=>235|224=>236|267=>237|266=>283|314=>284|n=>n,fun |9=>9|31=>61|3=>3|4=>4|0=>0|105=>216|21=>21|5=>5|46=>114|119=>273|139=>276|138=>275|146=>237|51=>100|n=>n,fun |1=>0|3=>4|4=>5|n=>n⟩
theorem bOz:Go.Proofs.Lays.n146 prog bOA:={
 mixed:=by kernel_rfl
 f138:=func168.trans (congrArg some (by kernel_rfl))
 f143:=func169.trans (congrArg some (by kernel_rfl))
 f146:=func31.trans (congrArg some (by kernel_rfl))
 f195:=func238.trans (congrArg some (by kernel_rfl))
 f197:=func239.trans (congrArg some (by kernel_rfl))
 f217:=func234.trans (congrArg some (by kernel_rfl))
 f218:=func240.trans (congrArg some (by kernel_rfl))
 f219:=func166.trans (congrArg some (by kernel_rfl))
 f221:=func78.trans (congrArg some (by kernel_rfl))
 f224:=func236.trans (congrArg some (by kernel_rfl))
 f225:=func235.trans (congrArg some (by kernel_rfl))
 f260:=func285.trans (congrArg some (by kernel_rfl))
 f266:=func283.trans (congrArg some (by kernel_rfl))
 f267:=func237.trans (congrArg some (by kernel_rfl))
 f268:=func167.trans (congrArg some (by kernel_rfl))
 f314:=func284.trans (congrArg some (by kernel_rfl))
 t0:=underlying0
 a0:=isAgg0
 z0:=sizeOf0
 v0:=zeroValue0
 t3:=underlying3
 a3:=isAgg3
 z3:=sizeOf3
 v3:=zeroValue3
 t4:=underlying4
 a4:=isAgg4
 z4:=sizeOf4
 v4:=zeroValue4
 t5:=underlying5
 a5:=isAgg5
 z5:=sizeOf5
 v5:=zeroValue5
 t9:=underlying9
 a9:=isAgg9
 z9:=sizeOf9
 v9:=zeroValue9
 t21:=underlying21
 a21:=isAgg21
 z21:=sizeOf21
 v21:=zeroValue21
 t31:=underlying61
 a31:=isAgg61
 z31:=sizeOf61
 v31:=zeroValue61
 t46:=underlying114
 a46:=isAgg114
 z46:=sizeOf114
 v46:=zeroValue114
 t51:=underlying100
 a51:=isAgg100
 z51:=sizeOf100
 v51:=zeroValue100
 t105:=underlying216
 a105:=isAgg216
 z105:=sizeOf216
 v105:=zeroValue216
 t119:=underlying273
 a119:=isAgg273
 z119:=sizeOf273
 t138:=underlying275
 a138:=isAgg275
 z138:=sizeOf275
 v138:=zeroValue275
 t139:=underlying276
 a139:=isAgg276
 z139:=sizeOf276
 v139:=zeroValue276
 t146:=underlying237
 a146:=isAgg237
 z146:=sizeOf237
 v146:=zeroValue237
 g1:=by kernel_rfl
 g3:=by kernel_rfl
 g4:=by kernel_rfl }
open Go.RowKit Go.Lib in
theorem bQL(s sep:ByteArray)(m:Int)(w:World)(hs:s.size<4294967281)(hm:w.cell? ⟨0,0,none⟩=some (.int .i64 m))(h1:1<=sep.size):
  Calls prog 31 #[.string s,.string sep] w fun e w'=>
   e= .returned (.slice (some ⟨w.heap.size,0,none⟩) (Lib.countB s sep+1) (Lib.countB s sep+1))/\w'=w.alloc (.cells ((Lib.splitB sep 0 (Lib.countB s sep) s).map Value.string).toArray 9):=Any.strings_Split bOz (by kernel_rfl) s sep m w hs hm h1
def bOk:Go.Shelf.Ren:=⟨fun |105=>99|212=>186|99=>187|165=>101|166=>98|170=>188|169=>100|263=>259|264=>260|206=>165|240=>183|241=>189|276=>254|277=>261|n=>n,fun |9=>9|3=>3|4=>4|20=>20|0=>0|46=>114|109=>187|5=>5|72=>121|76=>67|51=>100|146=>237|53=>103|148=>239|70=>118|37=>119|75=>66|127=>190|164=>230|80=>128|n=>n,fun |n=>n⟩
theorem bOj:Go.Proofs.Lays.n105 prog bOk:={
 mixed:=by kernel_rfl
 f99:=func187.trans (congrArg some (by kernel_rfl))
 f105:=func99.trans (congrArg some (by kernel_rfl))
 f165:=func101.trans (congrArg some (by kernel_rfl))
 f166:=func98.trans (congrArg some (by kernel_rfl))
 f169:=func100.trans (congrArg some (by kernel_rfl))
 f170:=func188.trans (congrArg some (by kernel_rfl))
 f206:=func165.trans (congrArg some (by kernel_rfl))
 f212:=func186.trans (congrArg some (by kernel_rfl))
 f240:=func183.trans (congrArg some (by kernel_rfl))
 f241:=func189.trans (congrArg some (by kernel_rfl))
 f263:=func259.trans (congrArg some (by kernel_rfl))
 f264:=func260.trans (congrArg some (by kernel_rfl))
 f276:=func254.trans (congrArg some (by kernel_rfl))
 f277:=func261.trans (congrArg some (by kernel_rfl))
 t0:=underlying0
 a0:=isAgg0
 z0:=sizeOf0
 v0:=zeroValue0
 t3:=underlying3
 a3:=isAgg3
 z3:=sizeOf3
 v3:=zeroValue3
 t4:=underlying4
 a4:=isAgg4
 z4:=sizeOf4
 v4:=zeroValue4
 t5:=underlying5
 a5:=isAgg5
 z5:=sizeOf5
 v5:=zeroValue5
 t9:=underlying9
 a9:=isAgg9
 z9:=sizeOf9
 v9:=zeroValue9
 t20:=underlying20
 a20:=isAgg20
 z20:=sizeOf20
 v20:=zeroValue20
 t37:=underlying119
 a37:=isAgg119
 z37:=sizeOf119
 v37:=zeroValue119
 t46:=underlying114
 a46:=isAgg114
 z46:=sizeOf114
 v46:=zeroValue114
 t51:=underlying100
 a51:=isAgg100
 z51:=sizeOf100
 v51:=zeroValue100
 t53:=underlying103
 a53:=isAgg103
 z53:=sizeOf103
 v53:=zeroValue103
 t70:=underlying118
 a70:=isAgg118
 z70:=sizeOf118
 v70:=zeroValue118
 t72:=underlying121
 a72:=isAgg121
 z72:=sizeOf121
 v72:=zeroValue121
 t75:=underlying66
 a75:=isAgg66
 z75:=sizeOf66
 v75:=zeroValue66
 t76:=underlying67
 a76:=isAgg67
 z76:=sizeOf67
 v76:=zeroValue67
 t109:=underlying187
 a109:=isAgg187
 z109:=sizeOf187
 v109:=zeroValue187
 t127:=underlying190
 a127:=isAgg190
 z127:=sizeOf190
 v127:=zeroValue190
 t146:=underlying237
 a146:=isAgg237
 z146:=sizeOf237
 v146:=zeroValue237
 t148:=underlying239
 a148:=isAgg239
 z148:=sizeOf239
 v148:=zeroValue239
 t164:=underlying230
 a164:=isAgg230
 z164:=sizeOf230
 v164:=zeroValue230 }
theorem bNs:Builder.Extra prog bOk:={
 sizeBuilder:=by kernel_rfl
 liesBuilder:=by kernel_rfl
 t5:=underlying5
 a5:=isAgg5
 z5:=sizeOf5
 v5:=zeroValue5
 infoByte:=by kernel_rfl
 cellsByte:=by kernel_rfl
 sizeByte:=by kernel_rfl
 neB5:=by decide }
end Go.Proofs.YtmjoaipkaddkbaaGreatDoor
