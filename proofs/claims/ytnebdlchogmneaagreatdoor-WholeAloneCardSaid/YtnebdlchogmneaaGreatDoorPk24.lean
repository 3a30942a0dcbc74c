/- Texts of the proof: Shelf, AsB, AsC, AsD, AsE. -/
import Derived.Test.YtnebdlchogmneaaGreatDoorPk1
import Derived.Test.YtnebdlchogmneaaGreatDoorProg
import Derived.Shelf.Strings.SplitShaped
import Derived.Shelf.Strings.Trim
import Derived.Shelf.Small.Wraps
import Derived.Shelf.Strings.LastIndex
import Derived.Shelf.Strconv.Itoa3
import Derived.Shelf.Strconv.AtoiAll
import Derived.Shelf.Strings.Cut
import Derived.Test.YtnebdlchogmneaaGreatDoorPk13
import Derived.Lib.AppendIntMem
import Derived.Lib.AtoiErrMem
import Derived.Test.YtnebdlchogmneaaGreatDoorPk16
import Derived.WalkSmall
namespace Go.Proofs
open Go.Shelf
def Tryz.Xl:Go.Shelf.Ren:=⟨fun|160=>61|232=>107|231=>106|227=>108|234=>110|233=>109|236=>112|235=>111|228=>152|271=>154|151=>153|197=>149|120=>205|152=>204|260=>199|137=>256|119=>257|224=>202|225=>201|217=>200|266=>254|n=>n,fun|9=>9|4=>4|3=>3|5=>5|117=>239|116=>238|0=>0|124=>242|21=>21|105=>308|46=>167|119=>363|139=>407|138=>406|n=>n,fun|3=>2|4=>3|n=>n⟩
theorem Tryz.Xm:Go.Proofs.Lays.n160 Tryz.prog Tryz.Xl:={
  mixed:=by kernel_rfl
  f119:=Tryz.func257.trans (congrArg some (by kernel_rfl))
  f120:=Tryz.func205.trans (congrArg some (by kernel_rfl))
  f137:=Tryz.func256.trans (congrArg some (by kernel_rfl))
  f151:=Tryz.func153.trans (congrArg some (by kernel_rfl))
  f152:=Tryz.func204.trans (congrArg some (by kernel_rfl))
  f160:=Tryz.func61.trans (congrArg some (by kernel_rfl))
  f197:=Tryz.func149.trans (congrArg some (by kernel_rfl))
  f217:=Tryz.func200.trans (congrArg some (by kernel_rfl))
  f224:=Tryz.func202.trans (congrArg some (by kernel_rfl))
  f225:=Tryz.func201.trans (congrArg some (by kernel_rfl))
  f227:=Tryz.func108.trans (congrArg some (by kernel_rfl))
  f228:=Tryz.func152.trans (congrArg some (by kernel_rfl))
  f231:=Tryz.func106.trans (congrArg some (by kernel_rfl))
  f232:=Tryz.func107.trans (congrArg some (by kernel_rfl))
  f233:=Tryz.func109.trans (congrArg some (by kernel_rfl))
  f234:=Tryz.func110.trans (congrArg some (by kernel_rfl))
  f235:=Tryz.func111.trans (congrArg some (by kernel_rfl))
  f236:=Tryz.func112.trans (congrArg some (by kernel_rfl))
  f260:=Tryz.func199.trans (congrArg some (by kernel_rfl))
  f266:=Tryz.func254.trans (congrArg some (by kernel_rfl))
  f271:=Tryz.func154.trans (congrArg some (by kernel_rfl))
  t0:=Tryz.underlying0
  a0:=Tryz.isAgg0
  z0:=Tryz.sizeOf0
  v0:=Tryz.zeroValue0
  t3:=Tryz.underlying3
  a3:=Tryz.isAgg3
  z3:=Tryz.sizeOf3
  v3:=Tryz.zeroValue3
  t4:=Tryz.underlying4
  a4:=Tryz.isAgg4
  z4:=Tryz.sizeOf4
  v4:=Tryz.zeroValue4
  t5:=Tryz.underlying5
  a5:=Tryz.isAgg5
  z5:=Tryz.sizeOf5
  v5:=Tryz.zeroValue5
  t9:=Tryz.underlying9
  a9:=Tryz.isAgg9
  z9:=Tryz.sizeOf9
  v9:=Tryz.zeroValue9
  t21:=Tryz.underlying21
  a21:=Tryz.isAgg21
  z21:=Tryz.sizeOf21
  v21:=Tryz.zeroValue21
  t46:=Tryz.underlying167
  a46:=Tryz.isAgg167
  z46:=Tryz.sizeOf167
  v46:=Tryz.zeroValue167
  t105:=Tryz.underlying308
  a105:=Tryz.isAgg308
  z105:=Tryz.sizeOf308
  v105:=Tryz.zeroValue308
  t116:=Tryz.underlying238
  a116:=Tryz.isAgg238
  z116:=Tryz.sizeOf238
  t117:=Tryz.underlying239
  a117:=Tryz.isAgg239
  z117:=Tryz.sizeOf239
  v117:=Tryz.zeroValue239
  t119:=Tryz.underlying363
  a119:=Tryz.isAgg363
  z119:=Tryz.sizeOf363
  t124:=Tryz.underlying242
  a124:=Tryz.isAgg242
  z124:=Tryz.sizeOf242
  v124:=Tryz.zeroValue242
  t138:=Tryz.underlying406
  a138:=Tryz.isAgg406
  z138:=Tryz.sizeOf406
  v138:=Tryz.zeroValue406
  t139:=Tryz.underlying407
  a139:=Tryz.isAgg407
  z139:=Tryz.sizeOf407
  v139:=Tryz.zeroValue407
  g3:=by kernel_rfl
  g4:=by kernel_rfl}
open Go.RowKit in
theorem Tryz.strings_Trim_one (s:ByteArray) (c:UInt8) (hc:c.toNat<128) (w:World) (hs:s.size≤9223372036854775807):
    Calls Tryz.prog 61 #[.string s,.string ⟨#[c]⟩] w fun e w'=>e=.returned (.string ⟨(Lib.trimB s.data.toList c).toArray⟩)∧(w'=w∨w'=w.drew):=Any.strings_Trim_one Tryz.Xm s c hc w hs
def Tryz.Xn:Go.Shelf.Ren:=⟨fun|103=>208|210=>259|206=>298|n=>n,fun|9=>9|4=>4|24=>159|3=>3|n=>n,fun|n=>n⟩
theorem Tryz.Xo:Go.Proofs.Lays.n103 Tryz.prog Tryz.Xn:={
  mixed:=by kernel_rfl
  f103:=Tryz.func208.trans (congrArg some (by kernel_rfl))
  f206:=Tryz.func298.trans (congrArg some (by kernel_rfl))
  f210:=Tryz.func259.trans (congrArg some (by kernel_rfl))
  t3:=Tryz.underlying3
  a3:=Tryz.isAgg3
  z3:=Tryz.sizeOf3
  v3:=Tryz.zeroValue3
  t4:=Tryz.underlying4
  a4:=Tryz.isAgg4
  z4:=Tryz.sizeOf4
  v4:=Tryz.zeroValue4
  t9:=Tryz.underlying9
  a9:=Tryz.isAgg9
  z9:=Tryz.sizeOf9
  v9:=Tryz.zeroValue9
  t24:=Tryz.underlying159
  a24:=Tryz.isAgg159
  z24:=Tryz.sizeOf159
  v24:=Tryz.zeroValue159}
open Go.RowKit in
theorem Tryz.strings_CutPrefix (s p:ByteArray) (w:World):
    Calls Tryz.prog 208 #[.string s,.string p] w fun e w'=>e=.returned (.tuple #[.string ⟨(Lib.trimPrefix s.data.toList p.data.toList).toArray⟩,.bool (Lib.hasPrefix s.data.toList p.data.toList)])∧w'=w:=Any.strings_CutPrefix Tryz.Xo s p w
def Tryz.Xp:Go.Shelf.Ren:=⟨fun|104=>62|211=>113|207=>155|n=>n,fun|9=>9|4=>4|24=>159|3=>3|n=>n,fun|n=>n⟩
theorem Tryz.Xq:Go.Proofs.Lays.n104 Tryz.prog Tryz.Xp:={
  mixed:=by kernel_rfl
  f104:=Tryz.func62.trans (congrArg some (by kernel_rfl))
  f207:=Tryz.func155.trans (congrArg some (by kernel_rfl))
  f211:=Tryz.func113.trans (congrArg some (by kernel_rfl))
  t3:=Tryz.underlying3
  a3:=Tryz.isAgg3
  z3:=Tryz.sizeOf3
  v3:=Tryz.zeroValue3
  t4:=Tryz.underlying4
  a4:=Tryz.isAgg4
  z4:=Tryz.sizeOf4
  v4:=Tryz.zeroValue4
  t9:=Tryz.underlying9
  a9:=Tryz.isAgg9
  z9:=Tryz.sizeOf9
  v9:=Tryz.zeroValue9
  t24:=Tryz.underlying159
  a24:=Tryz.isAgg159
  z24:=Tryz.sizeOf159
  v24:=Tryz.zeroValue159}
open Go.RowKit in
theorem Tryz.strings_CutSuffix (s p:ByteArray) (w:World) (hs:s.size≤9223372036854775807):
    Calls Tryz.prog 62 #[.string s,.string p] w fun e w'=>e=.returned (.tuple #[.string ⟨(Lib.trimSuffix s.data.toList p.data.toList).toArray⟩,.bool (Lib.hasSuffix s.data.toList p.data.toList)])∧w'=w:=Any.strings_CutSuffix Tryz.Xq s p w hs
def Tryz.Xr:Go.Shelf.Ren:=⟨fun|171=>210|243=>262|246=>304|283=>326|284=>327|285=>328|286=>329|129=>346|317=>345|318=>347|319=>348|320=>349|337=>354|338=>355|n=>n,fun|3=>3|9=>9|2=>2|4=>4|171=>490|0=>0|53=>40|37=>29|5=>5|173=>492|212=>507|51=>113|20=>20|213=>508|46=>167|232=>500|233=>513|n=>n,fun|17=>8|18=>7|19=>10|n=>n⟩
theorem Tryz.Xt:Go.Proofs.LaysM.n171 Tryz.prog Tryz.Xr:={
  mixed:=by kernel_rfl
  f129:=Tryz.func346.trans (congrArg some (by kernel_rfl))
  f171:=Tryz.func210.trans (congrArg some (by kernel_rfl))
  f243:=Tryz.func262.trans (congrArg some (by kernel_rfl))
  f246:=Tryz.func304.trans (congrArg some (by kernel_rfl))
  f283:=Tryz.func326.trans (congrArg some (by kernel_rfl))
  f284:=Tryz.func327.trans (congrArg some (by kernel_rfl))
  f285:=Tryz.func328.trans (congrArg some (by kernel_rfl))
  f286:=Tryz.func329.trans (congrArg some (by kernel_rfl))
  f317:=Tryz.func345.trans (congrArg some (by kernel_rfl))
  f318:=Tryz.func347.trans (congrArg some (by kernel_rfl))
  f319:=Tryz.func348.trans (congrArg some (by kernel_rfl))
  f320:=Tryz.func349.trans (congrArg some (by kernel_rfl))
  f337:=Tryz.func354.trans (congrArg some (by kernel_rfl))
  f338:=Tryz.func355.trans (congrArg some (by kernel_rfl))
  t0:=Tryz.underlying0
  a0:=Tryz.isAgg0
  z0:=Tryz.sizeOf0
  v0:=Tryz.zeroValue0
  t2:=Tryz.underlying2
  a2:=Tryz.isAgg2
  z2:=Tryz.sizeOf2
  v2:=Tryz.zeroValue2
  t3:=Tryz.underlying3
  a3:=Tryz.isAgg3
  z3:=Tryz.sizeOf3
  v3:=Tryz.zeroValue3
  t4:=Tryz.underlying4
  a4:=Tryz.isAgg4
  z4:=Tryz.sizeOf4
  v4:=Tryz.zeroValue4
  t5:=Tryz.underlying5
  a5:=Tryz.isAgg5
  z5:=Tryz.sizeOf5
  v5:=Tryz.zeroValue5
  t9:=Tryz.underlying9
  a9:=Tryz.isAgg9
  z9:=Tryz.sizeOf9
  v9:=Tryz.zeroValue9
  t20:=Tryz.underlying20
  a20:=Tryz.isAgg20
  z20:=Tryz.sizeOf20
  v20:=Tryz.zeroValue20
  t37:=Tryz.underlying29
  a37:=Tryz.isAgg29
  z37:=Tryz.sizeOf29
  v37:=Tryz.zeroValue29
  t46:=Tryz.underlying167
  a46:=Tryz.isAgg167
  z46:=Tryz.sizeOf167
  v46:=Tryz.zeroValue167
  t51:=Tryz.underlying113
  a51:=Tryz.isAgg113
  z51:=Tryz.sizeOf113
  v51:=Tryz.zeroValue113
  t53:=Tryz.underlying40
  a53:=Tryz.isAgg40
  z53:=Tryz.sizeOf40
  v53:=Tryz.zeroValue40
  t171:=Tryz.underlying490
  a171:=Tryz.isAgg490
  z171:=Tryz.sizeOf490
  v171:=Tryz.zeroValue490
  t173:=Tryz.underlying492
  a173:=Tryz.isAgg492
  z173:=Tryz.sizeOf492
  v173:=Tryz.zeroValue492
  t212:=Tryz.underlying507
  a212:=Tryz.isAgg507
  z212:=Tryz.sizeOf507
  v212:=Tryz.zeroValue507
  t213:=Tryz.underlying508
  a213:=Tryz.isAgg508
  z213:=Tryz.sizeOf508
  t232:=Tryz.underlying500
  a232:=Tryz.isAgg500
  z232:=Tryz.sizeOf500
  v232:=Tryz.zeroValue500
  t233:=Tryz.underlying513
  a233:=Tryz.isAgg513
  z233:=Tryz.sizeOf513
  v233:=Tryz.zeroValue513
  g17:=by kernel_rfl
  g18:=by kernel_rfl
  g19:=by kernel_rfl
  i0:=by kernel_rfl
  i2:=by kernel_rfl
  i3:=by kernel_rfl
  i4:=by kernel_rfl
  i5:=by kernel_rfl
  i9:=by kernel_rfl
  i20:=by kernel_rfl
  i37:=by kernel_rfl
  i46:=by kernel_rfl
  i51:=by kernel_rfl
  i53:=by kernel_rfl
  i171:=by kernel_rfl
  i173:=by kernel_rfl
  i212:=by kernel_rfl
  i232:=by kernel_rfl
  i233:=by kernel_rfl
  m17:=by kernel_rfl
  m18:=by kernel_rfl
  m19:=by kernel_rfl}
open Go.RowKit Go.Sort Go.Lib in
theorem Tryz.strconv_Itoa (n : Int) (h0 : -9223372036854775808 ≤ n) (h1 : n ≤ 9223372036854775807) (w : World) (htab : Lib.TabIs Tryz.prog w "internal/strconv.uint64pow10" .u64 Lib.pow10Tab) :
    Calls Tryz.prog 210 #[.int .i64 n] w fun e w'=>e=.returned (.string ⟨(Lib.itoa n).toArray⟩)∧∃ k os,w'=grow (w.drewN k) os:=Any.strconv_Itoa Tryz.Xt n h0 h1 w htab
open Go.RowKit Go.Sort Go.Lib in
def Tryz.Xu:Go.Shelf.Ren:=⟨fun|172=>209|244=>260|245=>261|247=>299|279=>300|280=>301|281=>302|282=>303|287=>323|316=>324|171=>210|205=>325|321=>343|322=>344|243=>262|246=>304|283=>326|284=>327|285=>328|286=>329|129=>346|317=>345|318=>347|319=>348|320=>349|337=>354|338=>355|n=>n,fun|9=>9|3=>3|75=>367|76=>368|4=>4|5=>5|167=>452|37=>29|0=>0|85=>453|2=>2|168=>455|53=>40|175=>484|46=>167|210=>488|127=>502|145=>505|143=>503|21=>21|171=>490|173=>492|212=>507|51=>113|20=>20|213=>508|232=>500|233=>513|80=>514|n=>n,fun|15=>5|16=>6|17=>8|18=>7|19=>10|n=>n⟩
theorem Tryz.Nw:Go.Proofs.LaysC.n172 Tryz.prog Tryz.Xu:={
  mixed:=by kernel_rfl
  f129:=Tryz.func346.trans (congrArg some (by kernel_rfl))
  f171:=Tryz.func210.trans (congrArg some (by kernel_rfl))
  f172:=Tryz.func209.trans (congrArg some (by kernel_rfl))
  f205:=Tryz.func325.trans (congrArg some (by kernel_rfl))
  f243:=Tryz.func262.trans (congrArg some (by kernel_rfl))
  f244:=Tryz.func260.trans (congrArg some (by kernel_rfl))
  f245:=Tryz.func261.trans (congrArg some (by kernel_rfl))
  f246:=Tryz.func304.trans (congrArg some (by kernel_rfl))
  f247:=Tryz.func299.trans (congrArg some (by kernel_rfl))
  f279:=Tryz.func300.trans (congrArg some (by kernel_rfl))
  f280:=Tryz.func301.trans (congrArg some (by kernel_rfl))
  f281:=Tryz.func302.trans (congrArg some (by kernel_rfl))
  f282:=Tryz.func303.trans (congrArg some (by kernel_rfl))
  f283:=Tryz.func326.trans (congrArg some (by kernel_rfl))
  f284:=Tryz.func327.trans (congrArg some (by kernel_rfl))
  f285:=Tryz.func328.trans (congrArg some (by kernel_rfl))
  f286:=Tryz.func329.trans (congrArg some (by kernel_rfl))
  f287:=Tryz.func323.trans (congrArg some (by kernel_rfl))
  f316:=Tryz.func324.trans (congrArg some (by kernel_rfl))
  f317:=Tryz.func345.trans (congrArg some (by kernel_rfl))
  f318:=Tryz.func347.trans (congrArg some (by kernel_rfl))
  f319:=Tryz.func348.trans (congrArg some (by kernel_rfl))
  f320:=Tryz.func349.trans (congrArg some (by kernel_rfl))
  f321:=Tryz.func343.trans (congrArg some (by kernel_rfl))
  f322:=Tryz.func344.trans (congrArg some (by kernel_rfl))
  f337:=Tryz.func354.trans (congrArg some (by kernel_rfl))
  f338:=Tryz.func355.trans (congrArg some (by kernel_rfl))
  t0:=Tryz.underlying0
  a0:=Tryz.isAgg0
  z0:=Tryz.sizeOf0
  v0:=Tryz.zeroValue0
  t2:=Tryz.underlying2
  a2:=Tryz.isAgg2
  z2:=Tryz.sizeOf2
  v2:=Tryz.zeroValue2
  t3:=Tryz.underlying3
  a3:=Tryz.isAgg3
  z3:=Tryz.sizeOf3
  v3:=Tryz.zeroValue3
  t4:=Tryz.underlying4
  a4:=Tryz.isAgg4
  z4:=Tryz.sizeOf4
  v4:=Tryz.zeroValue4
  t5:=Tryz.underlying5
  a5:=Tryz.isAgg5
  z5:=Tryz.sizeOf5
  v5:=Tryz.zeroValue5
  t9:=Tryz.underlying9
  a9:=Tryz.isAgg9
  z9:=Tryz.sizeOf9
  v9:=Tryz.zeroValue9
  t20:=Tryz.underlying20
  a20:=Tryz.isAgg20
  z20:=Tryz.sizeOf20
  v20:=Tryz.zeroValue20
  t21:=Tryz.underlying21
  a21:=Tryz.isAgg21
  z21:=Tryz.sizeOf21
  v21:=Tryz.zeroValue21
  t37:=Tryz.underlying29
  a37:=Tryz.isAgg29
  z37:=Tryz.sizeOf29
  v37:=Tryz.zeroValue29
  t46:=Tryz.underlying167
  a46:=Tryz.isAgg167
  z46:=Tryz.sizeOf167
  v46:=Tryz.zeroValue167
  t51:=Tryz.underlying113
  a51:=Tryz.isAgg113
  z51:=Tryz.sizeOf113
  v51:=Tryz.zeroValue113
  t53:=Tryz.underlying40
  a53:=Tryz.isAgg40
  z53:=Tryz.sizeOf40
  v53:=Tryz.zeroValue40
  t75:=Tryz.underlying367
  a75:=Tryz.isAgg367
  z75:=Tryz.sizeOf367
  v75:=Tryz.zeroValue367
  t76:=Tryz.underlying368
  a76:=Tryz.isAgg368
  z76:=Tryz.sizeOf368
  v76:=Tryz.zeroValue368
  t85:=Tryz.underlying453
  a85:=Tryz.isAgg453
  z85:=Tryz.sizeOf453
  v85:=Tryz.zeroValue453
  t127:=Tryz.underlying502
  a127:=Tryz.isAgg502
  z127:=Tryz.sizeOf502
  v127:=Tryz.zeroValue502
  t143:=Tryz.underlying503
  a143:=Tryz.isAgg503
  z143:=Tryz.sizeOf503
  v143:=Tryz.zeroValue503
  t145:=Tryz.underlying505
  a145:=Tryz.isAgg505
  z145:=Tryz.sizeOf505
  v145:=Tryz.zeroValue505
  t167:=Tryz.underlying452
  a167:=Tryz.isAgg452
  z167:=Tryz.sizeOf452
  v167:=Tryz.zeroValue452
  t168:=Tryz.underlying455
  a168:=Tryz.isAgg455
  z168:=Tryz.sizeOf455
  v168:=Tryz.zeroValue455
  t171:=Tryz.underlying490
  a171:=Tryz.isAgg490
  z171:=Tryz.sizeOf490
  v171:=Tryz.zeroValue490
  t173:=Tryz.underlying492
  a173:=Tryz.isAgg492
  z173:=Tryz.sizeOf492
  v173:=Tryz.zeroValue492
  t175:=Tryz.underlying484
  a175:=Tryz.isAgg484
  z175:=Tryz.sizeOf484
  v175:=Tryz.zeroValue484
  t210:=Tryz.underlying488
  a210:=Tryz.isAgg488
  z210:=Tryz.sizeOf488
  v210:=Tryz.zeroValue488
  t212:=Tryz.underlying507
  a212:=Tryz.isAgg507
  z212:=Tryz.sizeOf507
  v212:=Tryz.zeroValue507
  t213:=Tryz.underlying508
  a213:=Tryz.isAgg508
  z213:=Tryz.sizeOf508
  t232:=Tryz.underlying500
  a232:=Tryz.isAgg500
  z232:=Tryz.sizeOf500
  v232:=Tryz.zeroValue500
  t233:=Tryz.underlying513
  a233:=Tryz.isAgg513
  z233:=Tryz.sizeOf513
  v233:=Tryz.zeroValue513
  g15:=by kernel_rfl
  g16:=by kernel_rfl
  g17:=by kernel_rfl
  g18:=by kernel_rfl
  g19:=by kernel_rfl
  t80:=Tryz.underlying514
  a80:=Tryz.isAgg514
  z80:=Tryz.sizeOf514
  v80:=Tryz.zeroValue514
  i0:=by kernel_rfl
  i2:=by kernel_rfl
  i3:=by kernel_rfl
  i4:=by kernel_rfl
  i5:=by kernel_rfl
  i9:=by kernel_rfl
  i20:=by kernel_rfl
  i21:=by kernel_rfl
  i37:=by kernel_rfl
  i46:=by kernel_rfl
  i51:=by kernel_rfl
  i53:=by kernel_rfl
  i75:=by kernel_rfl
  i76:=by kernel_rfl
  i80:=by kernel_rfl
  i85:=by kernel_rfl
  i127:=by kernel_rfl
  i143:=by kernel_rfl
  i145:=by kernel_rfl
  i167:=by kernel_rfl
  i168:=by kernel_rfl
  i171:=by kernel_rfl
  i173:=by kernel_rfl
  i175:=by kernel_rfl
  i210:=by kernel_rfl
  i212:=by kernel_rfl
  i232:=by kernel_rfl
  i233:=by kernel_rfl
  m15:=by kernel_rfl
  m16:=by kernel_rfl
  m17:=by kernel_rfl
  m18:=by kernel_rfl
  m19:=by kernel_rfl
  c0:=by kernel_rfl
  c2:=by kernel_rfl
  c3:=by kernel_rfl
  c4:=by kernel_rfl
  c5:=by kernel_rfl
  c9:=by kernel_rfl
  c20:=by kernel_rfl
  c21:=by kernel_rfl
  c37:=by kernel_rfl
  c46:=by kernel_rfl
  c51:=by kernel_rfl
  c53:=by kernel_rfl
  c75:=by kernel_rfl
  c76:=by kernel_rfl
  c80:=by kernel_rfl
  c85:=by kernel_rfl
  c127:=by kernel_rfl
  c143:=by kernel_rfl
  c145:=by kernel_rfl
  c167:=by kernel_rfl
  c168:=by kernel_rfl
  c171:=by kernel_rfl
  c173:=by kernel_rfl
  c175:=by kernel_rfl
  c210:=by kernel_rfl
  c212:=by kernel_rfl
  c213:=by kernel_rfl
  c232:=by kernel_rfl
  c233:=by kernel_rfl}
open Go.RowKit in
theorem Tryz.strconv_Atoi_ok (s:ByteArray) (hmax:s.size≤9223372036854775806) (v:Int) (h:Lib.atoiAll s.data.toList=.ok v) (w:World):
    Calls Tryz.prog 209 #[.string s] w fun e w'=>e=.returned (.tuple #[.int .i64 v,.nilIface])∧(w'=w∨∃ t,w'=Lib.bytesWorld w 5 t):=Any.strconv_Atoi_ok Tryz.Nw s hmax v h w
open Go.RowKit in
theorem Tryz.strconv_Atoi_syntax (s:ByteArray) (hlim:s.size≤281474976710656) (h1:Lib.atoiAll s.data.toList≠.range) (h2:∀ v,Lib.atoiAll s.data.toList≠.ok v) (ev:Value) (w:World) (hv:w.cell? ⟨5,0,none⟩=some ev) (hev:ev=.nilIface∨∃ te pe,ev=.iface te pe):
    Calls Tryz.prog 209 #[.string s] w fun e w'=>∃ N,e=.returned (.tuple #[.int .i64 (0),.iface 455 (.pointer (some ⟨N,0,none⟩))])∧w.heap.size≤N∧w'.heap[N]? = some (.cells #[.string ⟨#[65,116,111,105]⟩,.string s,ev] 488 (0,0))∧Below w.heap.size w w':=by
  cases h:Lib.atoiAll s.data.toList with
  | ok v => exact absurd h (h2 v)
  | range => exact absurd h h1
  | _ => exact Any.strconv_Atoi_syntax Tryz.Nw s hlim h ev w hv hev
def Tryz.Xv:Go.Shelf.Ren:=⟨fun|145=>60|220=>105|219=>151|217=>200|225=>201|224=>202|267=>203|266=>254|314=>255|n=>n,fun|9=>9|4=>4|59=>156|3=>3|5=>5|46=>167|146=>408|51=>113|n=>n,fun|1=>0|n=>n⟩
theorem Tryz.Xw:Go.Proofs.Lays.n145 Tryz.prog Tryz.Xv:={
  mixed:=by kernel_rfl
  f145:=Tryz.func60.trans (congrArg some (by kernel_rfl))
  f217:=Tryz.func200.trans (congrArg some (by kernel_rfl))
  f219:=Tryz.func151.trans (congrArg some (by kernel_rfl))
  f220:=Tryz.func105.trans (congrArg some (by kernel_rfl))
  f224:=Tryz.func202.trans (congrArg some (by kernel_rfl))
  f225:=Tryz.func201.trans (congrArg some (by kernel_rfl))
  f266:=Tryz.func254.trans (congrArg some (by kernel_rfl))
  f267:=Tryz.func203.trans (congrArg some (by kernel_rfl))
  f314:=Tryz.func255.trans (congrArg some (by kernel_rfl))
  t3:=Tryz.underlying3
  a3:=Tryz.isAgg3
  z3:=Tryz.sizeOf3
  v3:=Tryz.zeroValue3
  t4:=Tryz.underlying4
  a4:=Tryz.isAgg4
  z4:=Tryz.sizeOf4
  v4:=Tryz.zeroValue4
  t5:=Tryz.underlying5
  a5:=Tryz.isAgg5
  z5:=Tryz.sizeOf5
  v5:=Tryz.zeroValue5
  t9:=Tryz.underlying9
  a9:=Tryz.isAgg9
  z9:=Tryz.sizeOf9
  v9:=Tryz.zeroValue9
  t46:=Tryz.underlying167
  a46:=Tryz.isAgg167
  z46:=Tryz.sizeOf167
  v46:=Tryz.zeroValue167
  t51:=Tryz.underlying113
  a51:=Tryz.isAgg113
  z51:=Tryz.sizeOf113
  v51:=Tryz.zeroValue113
  t59:=Tryz.underlying156
  a59:=Tryz.isAgg156
  z59:=Tryz.sizeOf156
  v59:=Tryz.zeroValue156
  t146:=Tryz.underlying408
  a146:=Tryz.isAgg408
  z146:=Tryz.sizeOf408
  v146:=Tryz.zeroValue408
  g1:=by kernel_rfl}
open Go.RowKit Go.Lib in
theorem Tryz.strings_Cut (s sep:ByteArray) (m:Int) (w:World) (hs:s.size<4294967281) (hm:w.cell? ⟨0,0,none⟩=some (.int .i64 m)):
    Calls Tryz.prog 60 #[.string s,.string sep] w fun e w'=>e=.returned (.tuple #[.string ⟨(Lib.cut s.data.toList sep.data.toList).1.toArray⟩,.string ⟨(Lib.cut s.data.toList sep.data.toList).2.1.toArray⟩,.bool (Lib.cut s.data.toList sep.data.toList).2.2])∧∃ n,w'=w.drewN n:=Any.strings_Cut Tryz.Xw s sep m w hs hm
def Tryz.Xx:Go.Shelf.Ren:=⟨fun|149=>118|222=>161|n=>n,fun|9=>9|5=>5|3=>3|4=>4|n=>n,fun|n=>n⟩
theorem Tryz.Xy:Go.Proofs.Lays.n149 Tryz.prog Tryz.Xx:={
  mixed:=by kernel_rfl
  f149:=Tryz.func118.trans (congrArg some (by kernel_rfl))
  f222:=Tryz.func161.trans (congrArg some (by kernel_rfl))
  t3:=Tryz.underlying3
  a3:=Tryz.isAgg3
  z3:=Tryz.sizeOf3
  v3:=Tryz.zeroValue3
  t4:=Tryz.underlying4
  a4:=Tryz.isAgg4
  z4:=Tryz.sizeOf4
  v4:=Tryz.zeroValue4
  t5:=Tryz.underlying5
  a5:=Tryz.isAgg5
  z5:=Tryz.sizeOf5
  v5:=Tryz.zeroValue5
  t9:=Tryz.underlying9
  a9:=Tryz.isAgg9
  z9:=Tryz.sizeOf9
  v9:=Tryz.zeroValue9}
open Go.RowKit Go.Lib in
theorem Tryz.strings_LastIndexByte (s:ByteArray) (c:Int) (hs:s.size<4611686018427387904) (w:World):
    Calls Tryz.prog 118 #[.string s,.int .u8 c] w fun e w'=>e=.returned (.int .i64 (Lib.lastIndexByte s c))∧w'=w:=Any.strings_LastIndexByte Tryz.Xy s c hs w
def Tryz.Xz:Go.Shelf.Ren:=⟨fun|146=>33|221=>59|268=>102|138=>103|143=>104|195=>148|197=>149|218=>150|219=>151|260=>199|217=>200|225=>201|224=>202|267=>203|266=>254|314=>255|n=>n,fun|9=>9|31=>110|3=>3|4=>4|0=>0|105=>308|21=>21|5=>5|46=>167|119=>363|139=>407|138=>406|146=>408|51=>113|n=>n,fun|1=>0|3=>2|4=>3|n=>n⟩
theorem Tryz.XA:Go.Proofs.Lays.n146 Tryz.prog Tryz.Xz:={
  mixed:=by kernel_rfl
  f138:=Tryz.func103.trans (congrArg some (by kernel_rfl))
  f143:=Tryz.func104.trans (congrArg some (by kernel_rfl))
  f146:=Tryz.func33.trans (congrArg some (by kernel_rfl))
  f195:=Tryz.func148.trans (congrArg some (by kernel_rfl))
  f197:=Tryz.func149.trans (congrArg some (by kernel_rfl))
  f217:=Tryz.func200.trans (congrArg some (by kernel_rfl))
  f218:=Tryz.func150.trans (congrArg some (by kernel_rfl))
  f219:=Tryz.func151.trans (congrArg some (by kernel_rfl))
  f221:=Tryz.func59.trans (congrArg some (by kernel_rfl))
  f224:=Tryz.func202.trans (congrArg some (by kernel_rfl))
  f225:=Tryz.func201.trans (congrArg some (by kernel_rfl))
  f260:=Tryz.func199.trans (congrArg some (by kernel_rfl))
  f266:=Tryz.func254.trans (congrArg some (by kernel_rfl))
  f267:=Tryz.func203.trans (congrArg some (by kernel_rfl))
  f268:=Tryz.func102.trans (congrArg some (by kernel_rfl))
  f314:=Tryz.func255.trans (congrArg some (by kernel_rfl))
  t0:=Tryz.underlying0
  a0:=Tryz.isAgg0
  z0:=Tryz.sizeOf0
  v0:=Tryz.zeroValue0
  t3:=Tryz.underlying3
  a3:=Tryz.isAgg3
  z3:=Tryz.sizeOf3
  v3:=Tryz.zeroValue3
  t4:=Tryz.underlying4
  a4:=Tryz.isAgg4
  z4:=Tryz.sizeOf4
  v4:=Tryz.zeroValue4
  t5:=Tryz.underlying5
  a5:=Tryz.isAgg5
  z5:=Tryz.sizeOf5
  v5:=Tryz.zeroValue5
  t9:=Tryz.underlying9
  a9:=Tryz.isAgg9
  z9:=Tryz.sizeOf9
  v9:=Tryz.zeroValue9
  t21:=Tryz.underlying21
  a21:=Tryz.isAgg21
  z21:=Tryz.sizeOf21
  v21:=Tryz.zeroValue21
  t31:=Tryz.underlying110
  a31:=Tryz.isAgg110
  z31:=Tryz.sizeOf110
  v31:=Tryz.zeroValue110
  t46:=Tryz.underlying167
  a46:=Tryz.isAgg167
  z46:=Tryz.sizeOf167
  v46:=Tryz.zeroValue167
  t51:=Tryz.underlying113
  a51:=Tryz.isAgg113
  z51:=Tryz.sizeOf113
  v51:=Tryz.zeroValue113
  t105:=Tryz.underlying308
  a105:=Tryz.isAgg308
  z105:=Tryz.sizeOf308
  v105:=Tryz.zeroValue308
  t119:=Tryz.underlying363
  a119:=Tryz.isAgg363
  z119:=Tryz.sizeOf363
  t138:=Tryz.underlying406
  a138:=Tryz.isAgg406
  z138:=Tryz.sizeOf406
  v138:=Tryz.zeroValue406
  t139:=Tryz.underlying407
  a139:=Tryz.isAgg407
  z139:=Tryz.sizeOf407
  v139:=Tryz.zeroValue407
  t146:=Tryz.underlying408
  a146:=Tryz.isAgg408
  z146:=Tryz.sizeOf408
  v146:=Tryz.zeroValue408
  g1:=by kernel_rfl
  g3:=by kernel_rfl
  g4:=by kernel_rfl}
open Go.RowKit Go.Lib in
theorem Tryz.strings_Split (s sep:ByteArray) (m:Int) (w:World) (hs:s.size<4294967281) (hm:w.cell? ⟨0,0,none⟩=some (.int .i64 m)) (h1:1≤sep.size):
    Calls Tryz.prog 33 #[.string s,.string sep] w fun e w' =>
      e=.returned (.slice (some ⟨w.heap.size,0,none⟩) (Lib.countB s sep+1) (Lib.countB s sep+1))∧w'=w.alloc (.cells ((Lib.splitB sep 0 (Lib.countB s sep) s).map Value.string).toArray 9):=Any.strings_Split Tryz.XA (by kernel_rfl) s sep m w hs hm h1
def Tryz.XB:Go.Shelf.Ren:=⟨fun|157=>156|229=>206|199=>207|261=>258|311=>296|312=>297|n=>n,fun|9=>9|31=>110|3=>3|5=>5|4=>4|119=>363|0=>0|40=>365|152=>410|21=>21|154=>412|51=>113|141=>414|196=>445|193=>442|198=>447|49=>98|194=>443|201=>450|226=>482|46=>167|227=>483|n=>n,fun|0=>1|6=>4|n=>n⟩
theorem Tryz.XC:Go.Proofs.Lays.n157 Tryz.prog Tryz.XB:={
  mixed:=by kernel_rfl
  f157:=Tryz.func156.trans (congrArg some (by kernel_rfl))
  f199:=Tryz.func207.trans (congrArg some (by kernel_rfl))
  f229:=Tryz.func206.trans (congrArg some (by kernel_rfl))
  f261:=Tryz.func258.trans (congrArg some (by kernel_rfl))
  f311:=Tryz.func296.trans (congrArg some (by kernel_rfl))
  f312:=Tryz.func297.trans (congrArg some (by kernel_rfl))
  t0:=Tryz.underlying0
  a0:=Tryz.isAgg0
  z0:=Tryz.sizeOf0
  v0:=Tryz.zeroValue0
  t3:=Tryz.underlying3
  a3:=Tryz.isAgg3
  z3:=Tryz.sizeOf3
  v3:=Tryz.zeroValue3
  t4:=Tryz.underlying4
  a4:=Tryz.isAgg4
  z4:=Tryz.sizeOf4
  v4:=Tryz.zeroValue4
  t5:=Tryz.underlying5
  a5:=Tryz.isAgg5
  z5:=Tryz.sizeOf5
  v5:=Tryz.zeroValue5
  t9:=Tryz.underlying9
  a9:=Tryz.isAgg9
  z9:=Tryz.sizeOf9
  v9:=Tryz.zeroValue9
  t21:=Tryz.underlying21
  a21:=Tryz.isAgg21
  z21:=Tryz.sizeOf21
  v21:=Tryz.zeroValue21
  t31:=Tryz.underlying110
  a31:=Tryz.isAgg110
  z31:=Tryz.sizeOf110
  v31:=Tryz.zeroValue110
  t40:=Tryz.underlying365
  a40:=Tryz.isAgg365
  z40:=Tryz.sizeOf365
  v40:=Tryz.zeroValue365
  t46:=Tryz.underlying167
  a46:=Tryz.isAgg167
  z46:=Tryz.sizeOf167
  v46:=Tryz.zeroValue167
  t49:=Tryz.underlying98
  a49:=Tryz.isAgg98
  z49:=Tryz.sizeOf98
  v49:=Tryz.zeroValue98
  t51:=Tryz.underlying113
  a51:=Tryz.isAgg113
  z51:=Tryz.sizeOf113
  v51:=Tryz.zeroValue113
  t119:=Tryz.underlying363
  a119:=Tryz.isAgg363
  z119:=Tryz.sizeOf363
  t141:=Tryz.underlying414
  a141:=Tryz.isAgg414
  z141:=Tryz.sizeOf414
  v141:=Tryz.zeroValue414
  t152:=Tryz.underlying410
  a152:=Tryz.isAgg410
  z152:=Tryz.sizeOf410
  v152:=Tryz.zeroValue410
  t154:=Tryz.underlying412
  a154:=Tryz.isAgg412
  z154:=Tryz.sizeOf412
  v154:=Tryz.zeroValue412
  t193:=Tryz.underlying442
  a193:=Tryz.isAgg442
  z193:=Tryz.sizeOf442
  v193:=Tryz.zeroValue442
  t194:=Tryz.underlying443
  a194:=Tryz.isAgg443
  z194:=Tryz.sizeOf443
  v194:=Tryz.zeroValue443
  t196:=Tryz.underlying445
  a196:=Tryz.isAgg445
  z196:=Tryz.sizeOf445
  v196:=Tryz.zeroValue445
  t198:=Tryz.underlying447
  a198:=Tryz.isAgg447
  z198:=Tryz.sizeOf447
  v198:=Tryz.zeroValue447
  t201:=Tryz.underlying450
  a201:=Tryz.isAgg450
  z201:=Tryz.sizeOf450
  v201:=Tryz.zeroValue450
  t226:=Tryz.underlying482
  a226:=Tryz.isAgg482
  z226:=Tryz.sizeOf482
  v226:=Tryz.zeroValue482
  t227:=Tryz.underlying483
  a227:=Tryz.isAgg483
  z227:=Tryz.sizeOf483
  v227:=Tryz.zeroValue483
  g0:=by kernel_rfl
  g6:=by kernel_rfl}
open Go.RowKit Go.Lib in
theorem Tryz.strings_Fields (s : ByteArray) (w : World) (hs : s.size < 4294967281) (hascii : ∀ (j : Nat) b, s.data.toList[j]? = some b → b.toNat < 128) (htab : Lib.TabIs Tryz.prog w "strings.asciiSpace" .u8 Lib.asciiSpaceTab) :
    Calls Tryz.prog 156 #[.string s] w fun e w' =>
      e=.returned (.slice (some ⟨w.heap.size,0,none⟩) (Lib.fields s.data.toList).length (Lib.fields s.data.toList).length)∧w'=w.alloc (.cells ((Lib.fields s.data.toList).map fun l=>Value.string ⟨l.toArray⟩).toArray 9):=Any.strings_Fields Tryz.XC (by kernel_rfl) (by kernel_rfl) s w hs hascii htab
end Go.Proofs
set_option maxHeartbeats 8000000
set_option linter.unusedVariables false
set_option linter.unusedSimpArgs false
namespace Go.Proofs.YtnebdlchogmneaaGreatDoor
open Go.RowKit
def uZ:ByteArray:=⟨#[104,97,108,116,32,108,105,32,97,100,100,105,32,115,108,108,105,32,97,100,100,32,115,117,98,32,97,110,100,32,111,114,32,120,111,114,32,115,108,116,32,99,97,100,100,32,99,115,117,98,32,99,109,117,108,32,99,99,111,110,106,32,99,110,111,114,109,32,98,101,113,32,98,110,101,32,98,108,116,32,106,97,108,32,108,98,32,108,104,32,108,119,32,108,100,32,108,98,117,32,108,104,117,32,108,119,117,32,115,98,32,115,104,32,115,119,32,115,100,32,115,119,97,112,46,119,32,115,119,97,112,46,100,32,97,109,111,97,100,100,46,119,32,97,109,111,97,100,100,46,100,32,102,101,110,99,101]⟩
def oz:List ByteArray:=[⟨#[104,97,108,116]⟩,⟨#[108,105]⟩,⟨#[97,100,100,105]⟩,⟨#[115,108,108,105]⟩,⟨#[97,100,100]⟩,⟨#[115,117,98]⟩,⟨#[97,110,100]⟩,⟨#[111,114]⟩,⟨#[120,111,114]⟩,⟨#[115,108,116]⟩,⟨#[99,97,100,100]⟩,⟨#[99,115,117,98]⟩,⟨#[99,109,117,108]⟩,⟨#[99,99,111,110,106]⟩,⟨#[99,110,111,114,109]⟩,⟨#[98,101,113]⟩,⟨#[98,110,101]⟩,⟨#[98,108,116]⟩,⟨#[106,97,108]⟩,⟨#[108,98]⟩,⟨#[108,104]⟩,⟨#[108,119]⟩,⟨#[108,100]⟩,⟨#[108,98,117]⟩,⟨#[108,104,117]⟩,⟨#[108,119,117]⟩,⟨#[115,98]⟩,⟨#[115,104]⟩,⟨#[115,119]⟩,⟨#[115,100]⟩,⟨#[115,119,97,112,46,119]⟩,⟨#[115,119,97,112,46,100]⟩,⟨#[97,109,111,97,100,100,46,119]⟩,⟨#[97,109,111,97,100,100,46,100]⟩,⟨#[102,101,110,99,101]⟩]
theorem Ny:(Lib.fields uZ.data.toList).map (fun l=>(⟨l.toArray⟩:ByteArray))=oz:=by kernel_rfl
theorem XD:∀ (j:Nat) (b:UInt8),uZ.data.toList[j]? = some b→b.toNat<128:=by
  have h:uZ.data.toList.all (fun b=>decide (b.toNat<128))=true:=by kernel_rfl
  intro j b hj;exact of_decide_eq_true (List.all_eq_true.1 h b (List.mem_of_getElem? hj))
def Dl (s:ByteArray):List ByteArray→Nat→Option Nat
  | [],_=>none
  | x::r,k=>if x=s then some k else Dl s r (k+1)
def Bj (s:ByteArray):Option Nat:=Dl s oz 0
def Dm (o:Option Nat):Value:=.tuple #[.int .i64 ((o.getD 0:Nat):Int),.bool o.isSome]
theorem Nz {a b:ByteArray} (h:a≠b):(a.toList==b.toList)=false:=by
  rw [ByteArray.toList_eq,ByteArray.toList_eq,beq_eq_false_iff_ne];exact fun e=>h (Go.WideShapes.bytes_inj e)
theorem str_eq {a b:ByteArray} (h:a=b):(a.toList==b.toList)=true:=by rw [h];simp
structure Gl (w:World):Prop where
  max:∃ m,w.cell? ⟨0,0,none⟩=some (.int .i64 m)
  space : Lib.TabIs Tryz.prog w "strings.asciiSpace" .u8 Lib.asciiSpaceTab
  pow : Lib.TabIs Tryz.prog w "internal/strconv.uint64pow10" .u64 Lib.pow10Tab
  err:∃ v,w.cell? ⟨5,0,none⟩=some v∧(v=.nilIface∨∃ te pe,v=.iface te pe)
theorem Gl.below {w w':World} (h:Gl w) (hb:Ext w w'):Gl w':=by
  obtain ⟨⟨m,hm⟩,h2,h3,v,hv,hv2⟩:=h
  exact ⟨⟨m,(hb.cell (p:=⟨0,0,none⟩) (cB hm)).trans hm⟩,Lib.tabBelow_of_tabIs h2 _ hb,Lib.tabBelow_of_tabIs h3 _ hb,v,(hb.cell (p:=⟨5,0,none⟩) (cB hv)).trans hv,hv2⟩
theorem kD {W w:World} {os:List Oj} (h:Gl W) (hO:aa W os w):Gl w:=h.below hO.bel
def pM (s:ByteArray):Option Int:=match Lib.atoiAll s.data.toList with
  | .ok v=>if (⟨(Lib.itoa v).toArray⟩:ByteArray)=s then some v else none
  | _=>none
def G7 (o:Option Int):Value:=.tuple #[.int .i64 (o.getD 0),.bool o.isSome]
structure Fit (s:ByteArray):Prop where
  size:s.size≤1000
  fit:Lib.atoiAll s.data.toList ≠ .range
theorem G8 (s:ByteArray) (w:World) (hg:Gl w):Calls Tryz.prog 114 #[.string s] w fun e w'=>e=.returned (Dm (Bj s))∧Below w.heap.size w w':=by
  have hsz:uZ.size<4294967281:=of_decide_eq_true (by kernel_rfl)
  have hF:=Tryz.strings_Fields uZ w hsz XD hg.space
  have e1:(Lib.fields uZ.data.toList).length=35:=by
    have:=congrArg List.length Ny
    rw [List.length_map] at this;exact this
  have e2:(Lib.fields uZ.data.toList).map (fun l=>Value.string ⟨l.toArray⟩)=oz.map Value.string:=by
    rw [← Ny,List.map_map]
    rfl
  rw [e1,e2] at hF;have HF:=Yh hF
  have H0:Hid (aa w [ae w.heap.size 9 (oz.map Value.string).toArray] (w.alloc (.cells (oz.map Value.string).toArray 9))):=Yh ((aa.nil (Below.refl _ _)).push _ _ rfl)
  clear hF e1 e2 hsz hg;unfold uZ at HF;go_enter Tryz.func114,Tryz.ntmps114
  go_wp2_with fail;refine HF.out.mono ?_
  rintro e w1 ⟨rfl,hw1⟩;have H1:Hid (aa w [ae w.heap.size 9 (oz.map Value.string).toArray] w1):=Yh (by rw [hw1];exact H0.out)
  clear H0 HF hw1;generalize w.heap.size=g at *
  go_wp2_with fail
  go_loopw [8,9,10,11,12,13,14,15,16,17,4,5] (fun i _ _ _ _ _ _ _ _ _ _ _ wr=>∃ k:Nat,k≤35∧i=.int .i64 (k:Int)∧Dl s (oz.drop k) k=Bj s∧wr=w1) (fun i _ _ _ _ _ _ _ _ _ _ _ _=>35-(intOf i).toNat)
  case atStart=>exact ⟨0,Nat.zero_le _,rfl,rfl,rfl⟩
  case round =>
    obtain ⟨k,hk,rfl,hop,rfl⟩:=hrel
    have oC:=Yh hop
    clear hop;by_cases hkl:k<35
    · have HK:=Yh hkl
      have hki:(k:Int)<35:=by omega
      have hk0:(0:Int)≤(k:Int):=by omega
      have hl:k<oz.length:=hkl
      have hd:oz.drop k=oz[k]::oz.drop (k+1):=List.drop_eq_getElem_cons hl
      have bc:=H1.out.blk 0 rfl
      have hc:wr.cell? ⟨g,((k:Int)).toNat,none⟩=some (.string oz[k]):=by
        refine (bc.cell k).trans ?_
        rw [List.getElem?_toArray,List.getElem?_map,List.getElem?_eq_getElem hl]
        rfl
      have kR:=bc.lt
      have h3:=oC.out
      rw [hd] at h3;unfold Dl at h3;generalize oz[k]=nm at *;clear bc hd hl hkl;by_cases hx:nm=s
      · rw [if_pos hx] at h3
        have H3:=Yh h3
        clear h3;generalize eB:(k:Int)=ki at *;have bZ:=Yh eB
        clear eB
        go_wp2_with fail
        go_ret2
        refine ⟨?_,H1.out.bel⟩
        rw [← H3.out,← bZ.out]
        rfl
      · rw [if_neg hx] at h3
        have hx2:=Nz hx
        have H3:=Yh h3
        clear h3;generalize eB:(k:Int)=ki at *;have bZ:=Yh eB
        clear eB
        go_wp2_with fail
        go_roundw
        case rel=>exact ⟨k+1,HK.out,by rw [← bZ.out];rfl,H3.out,trivial⟩
        case measure =>
          show 35-(ki+1).toNat<35-ki.toNat
          have h1:=HK.out
          have h2:=bZ.out
          omega
    · obtain rfl:k=35:=by omega
      go_wp2_with fail
      go_ret2
      refine ⟨?_,H1.out.bel⟩
      rw [← oC.out]
      rfl
theorem XE (n:Int) (h0:-9223372036854775808≤n) (h1:n≤9223372036854775807) (w:World) (hg:Gl w):
    Calls Tryz.prog 210 #[.int .i64 n] w fun e w'=>e=.returned (.string ⟨(Lib.itoa n).toArray⟩)∧Below w.heap.size w w':=by
  refine (Tryz.strconv_Itoa n h0 h1 w hg.pow).mono ?_
  rintro e w' ⟨rfl,k,os,rfl⟩;exact ⟨rfl,Lib.below_grow _ w (Nat.le_refl _) k os⟩
theorem XF {l:List UInt8} {v:Int} (h:Lib.atoiAll l=.ok v):-9223372036854775808≤v∧v≤9223372036854775807:=by
  unfold Lib.atoiAll at h
  split at h
  · cases h
  · simp only at h
    split at h
    · cases h
    · cases h
    · split at h
      · cases h
      · split at h
        · cases h
        · injection h with h
          split at h <;> omega
theorem XG (s:ByteArray) (hs:s.size≤1000) (v:Int) (h:Lib.atoiAll s.data.toList=.ok v) (w:World):Calls Tryz.prog 209 #[.string s] w fun e w'=>e=.returned (.tuple #[.int .i64 v,.nilIface])∧Below w.heap.size w w':=by
  refine (Tryz.strconv_Atoi_ok s (by omega) v h w).mono ?_
  rintro e w' ⟨rfl,rfl|⟨t,rfl⟩⟩
  · exact ⟨rfl,Below.refl _ _⟩
  · exact ⟨rfl,Lib.bytesWorld_below _ _ _⟩
theorem XH (t:TypeId) (p:Value) (w:World):(binOp .neq 367 (.iface t p) .nilIface).run Tryz.prog w=.ok (.bool true) w:=by kernel_rfl
theorem G9 (s:ByteArray) (hs:Fit s) (w:World) (hg:Gl w):
    Calls Tryz.prog 160 #[.string s] w fun e w'=>e=.returned (G7 (pM s))∧Below w.heap.size w w':=by
  unfold pM
  cases ha:Lib.atoiAll s.data.toList with
  | ok v =>
    have HA:=Yh (XG s hs.size v ha w)
    obtain ⟨b0,b1⟩:=XF ha
    have HG:=Yh hg
    have HI:=Yh (fun w hg=>XE v b0 b1 w hg)
    clear hs hg ha b0 b1;simp only
    generalize (⟨(Lib.itoa v).toArray⟩:ByteArray)=it at *;by_cases hx:it=s
    · rw [if_pos hx]
      have hx3:=str_eq hx
      clear hx;go_enter Tryz.func160,Tryz.ntmps160
      go_wp2_with fail;refine HA.out.mono ?_
      rintro e w1 ⟨rfl,hb1⟩;have HB1:=Yh hb1
      clear hb1
      go_wp2_with fail;refine (HI.out _ (HG.out.below HB1.out)).mono ?_
      rintro e w2 ⟨rfl,hb2⟩;have HB2:=Yh hb2
      clear hb2
      go_wp2_with fail
      go_ret2
      exact ⟨rfl,HB1.out.trans (HB2.out.mono HB1.out.size)⟩
    · rw [if_neg hx]
      have hx3:=Nz hx
      clear hx;go_enter Tryz.func160,Tryz.ntmps160
      go_wp2_with fail;refine HA.out.mono ?_
      rintro e w1 ⟨rfl,hb1⟩;have HB1:=Yh hb1
      clear hb1
      go_wp2_with fail;refine (HI.out _ (HG.out.below HB1.out)).mono ?_
      rintro e w2 ⟨rfl,hb2⟩;have HB2:=Yh hb2
      clear hb2
      go_wp2_with fail
      go_ret2
      exact ⟨rfl,HB1.out.trans (HB2.out.mono HB1.out.size)⟩
  | range=>exact absurd ha hs.fit
  | _ =>
    obtain ⟨v,hv,hv2⟩:=hg.err
    have HA:=Yh (Tryz.strconv_Atoi_syntax s (by have:=hs.size;omega) (by rw [ha];intro h;cases h) (by rw [ha];intro v h;cases h) v w hv hv2)
    clear hs hg ha hv hv2;simp only
    go_enter Tryz.func160,Tryz.ntmps160
    go_wp2_with fail;refine HA.out.mono ?_
    rintro e w1 ⟨N,rfl,_,_,hb1⟩;have HB1:=Yh hb1
    clear hb1;have hne:=fun W'=>XH 455 (.pointer (some ⟨N,0,none⟩)) W'
    go_wp2_with fail
    go_ret2
    exact ⟨rfl,HB1.out⟩
def yX (s:ByteArray):Option Int:=if Lib.hasPrefix s.data.toList [114] then pM ⟨(Lib.trimPrefix s.data.toList [114]).toArray⟩ else none
def Ha (s:ByteArray):Value:=.tuple #[.int .i64 ((pM ⟨(Lib.trimPrefix s.data.toList [114]).toArray⟩).getD 0),.bool (yX s).isSome]
theorem XI (s:ByteArray) (hs:Fit ⟨(Lib.trimPrefix s.data.toList [114]).toArray⟩) (w:World) (hg:Gl w):
    Calls Tryz.prog 158 #[.string s] w fun e w'=>e=.returned (Ha s)∧Below w.heap.size w w':=by
  have HC:=Yh (Tryz.strings_CutPrefix s ⟨#[114]⟩ w)
  have HN:=Yh (G9 _ hs w hg)
  unfold Ha yX
  change Hid (Calls _ _ _ _ fun e w'=>e=.returned (.tuple #[.string ⟨(Lib.trimPrefix s.data.toList [114]).toArray⟩,.bool (Lib.hasPrefix s.data.toList [114])])∧w'=w) at HC
  clear hs hg;generalize (⟨(Lib.trimPrefix s.data.toList [114]).toArray⟩:ByteArray)=r at *;generalize Lib.hasPrefix s.data.toList [114]=b at *
  cases b with
  | true =>
    go_enter Tryz.func158,Tryz.ntmps158
    go_wp2_with fail;refine HC.out.mono ?_
    rintro e w1 ⟨rfl,rfl⟩
    go_wp2_with fail;refine HN.out.mono ?_
    rintro e w2 ⟨rfl,hb⟩;have HB:=Yh hb
    clear hb;unfold G7
    go_wp2_with fail
    go_ret2
    exact ⟨rfl,HB.out⟩
  | false =>
    go_enter Tryz.func158,Tryz.ntmps158
    go_wp2_with fail;refine HC.out.mono ?_
    rintro e w1 ⟨rfl,rfl⟩
    go_wp2_with fail;refine HN.out.mono ?_
    rintro e w2 ⟨rfl,hb⟩;have HB:=Yh hb
    clear hb;unfold G7
    go_wp2_with fail
    go_ret2
    exact ⟨rfl,HB.out⟩
end Go.Proofs.YtnebdlchogmneaaGreatDoor
namespace Go.Proofs.YtnebdlchogmneaaGreatDoor
open Go.RowKit Go.Maps
theorem xg (s sep:ByteArray) (a b:List UInt8) (f:Bool) (h:Lib.cut s.data.toList sep.data.toList=(a,b,f)) (hs:s.size≤100000) (w:World) (hg:Gl w):
    Calls Tryz.prog 60 #[.string s,.string sep] w fun e w'=>e=.returned (.tuple #[.string ⟨a.toArray⟩,.string ⟨b.toArray⟩,.bool f])∧Below w.heap.size w w':=by
  obtain ⟨m,hm⟩:=hg.max
  refine (Tryz.strings_Cut s sep m w (by omega) hm).mono ?_
  rintro e w' ⟨rfl,n,rfl⟩;rw [h];exact ⟨rfl,below_drewN (Below.refl _ _) n⟩
theorem NA {s:ByteArray} {n:Int} (hs:s.size≤1000) (h:pM s=some n):Fit s:=⟨hs,by
  intro e;unfold pM at h;rw [e] at h
  cases h⟩
theorem Hd (s:ByteArray) (n:Int) (hs:s.size≤1000) (h:pM s=some n) (w:World) (hg:Gl w):
    Calls Tryz.prog 160 #[.string s] w fun e w'=>e=.returned (.tuple #[.int .i64 n,.bool true])∧Below w.heap.size w w':=by
  refine (G9 s (NA hs h) w hg).mono ?_
  rintro e w' ⟨rfl,hb⟩;rw [h];exact ⟨rfl,hb⟩
theorem XJ (s:ByteArray) (hs:Fit s) (h:pM s=none) (w:World) (hg:Gl w):
    Calls Tryz.prog 160 #[.string s] w fun e w'=>e=.returned (.tuple #[.int .i64 0,.bool false])∧Below w.heap.size w w':=by
  refine (G9 s hs w hg).mono ?_
  rintro e w' ⟨rfl,hb⟩;rw [h];exact ⟨rfl,hb⟩
theorem NB (s:ByteArray) (n:Int) (hs:(Lib.trimPrefix s.data.toList [114]).length≤1000) (h:yX s=some n) (w:World) (hg:Gl w):
    Calls Tryz.prog 158 #[.string s] w fun e w'=>e=.returned (.tuple #[.int .i64 n,.bool true])∧Below w.heap.size w w':=by
  have h2:pM ⟨(Lib.trimPrefix s.data.toList [114]).toArray⟩=some n:=by
    unfold yX at h
    split at h
    · exact h
    · cases h
  refine (XI s (NA (by show (Lib.trimPrefix s.data.toList [114]).toArray.size≤1000;rw [List.size_toArray];exact hs) h2) w hg).mono ?_
  rintro e w' ⟨rfl,hb⟩;unfold Ha;rw [h,h2];exact ⟨rfl,hb⟩
theorem XK (s:ByteArray) (a b:List UInt8) (f:Bool) (n r:Int) (hs:s.size≤1000) (h:Lib.cut s.data.toList [40]=(a,b,f)) (hb:Lib.hasSuffix b [41]=true) (ha:a.length≤1000) (hbl:b.length≤1000)
    (hn:pM ⟨a.toArray⟩=some n) (hr:yX ⟨(Lib.trimSuffix b [41]).toArray⟩=some r) (hrl:(Lib.trimPrefix (Lib.trimSuffix b [41]) [114]).length≤1000) (w:World) (hg:Gl w):
    Calls Tryz.prog 159 #[.string s] w fun e w'=>e=.returned (.tuple #[.int .i64 n,.int .i64 r,.bool true])∧Below w.heap.size w w':=by
  have HC:=Yh (xg s ⟨#[40]⟩ a b f h (by omega) w hg)
  have HS:=Yh (fun w=>Tryz.strings_CutSuffix ⟨b.toArray⟩ ⟨#[41]⟩ w (by show b.toArray.size≤_;rw [List.size_toArray];omega))
  have HN:=Yh (fun w hg=>Hd ⟨a.toArray⟩ n (by show a.toArray.size≤_;rw [List.size_toArray];omega) hn w hg)
  have HR:=Yh (fun w hg=>NB ⟨(Lib.trimSuffix b [41]).toArray⟩ r hrl hr w hg)
  have HG:=Yh hg
  change Hid (∀ w,Calls _ _ _ _ fun e w'=>e=.returned (.tuple #[.string ⟨(Lib.trimSuffix b [41]).toArray⟩,.bool (Lib.hasSuffix b [41])])∧w'=w) at HS
  rw [hb] at HS;clear hs h hb ha hbl hn hr hrl hg;generalize (⟨(Lib.trimSuffix b [41]).toArray⟩:ByteArray)=rt at *;generalize (⟨b.toArray⟩:ByteArray)=bt at *;generalize (⟨a.toArray⟩:ByteArray)=at' at *;go_enter Tryz.func159,Tryz.ntmps159
  go_wp2_with fail;refine HC.out.mono ?_
  rintro e w1 ⟨rfl,hb1⟩;have oN:=Yh (HG.out.below hb1)
  have HB1:=Yh hb1
  clear hb1
  go_wp2_with fail;refine (HS.out _).mono ?_
  rintro e w2 ⟨rfl,rfl⟩
  go_wp2_with fail;refine (HN.out _ oN.out).mono ?_
  rintro e w3 ⟨rfl,hb3⟩;have jF:=Yh (oN.out.below hb3)
  have HB3:=Yh (HB1.out.trans (hb3.mono HB1.out.size))
  clear hb3
  go_wp2_with fail;refine (HR.out _ jF.out).mono ?_
  rintro e w4 ⟨rfl,hb4⟩;have dP:=Yh (HB3.out.trans (hb4.mono HB3.out.size))
  clear hb4
  go_wp2_with fail
  go_ret3
  exact ⟨rfl,dP.out⟩
def aZ (o rd rs rt im:Int):Array Value:=#[.int .i64 o,.int .i64 rd,.int .i64 rs,.int .i64 rt,.int .i64 im]
theorem XL (L:Bool) (o:Int) (x y:ByteArray) (r n q:Int) (W w:World) (os:List Oj) (ib lb:Nat) (HR:Hid (∀ w,Gl w→Calls Tryz.prog 158 #[.string x] w fun e w'=>e=.returned (.tuple #[.int .i64 r,.bool true])∧Below w.heap.size w w'))
    (HP:Hid (∀ w,Gl w→Calls Tryz.prog 159 #[.string y] w fun e w'=>e=.returned (.tuple #[.int .i64 n,.int .i64 q,.bool true])∧Below w.heap.size w w')) (hg:Gl W)
    (hO:aa W (ae ib 39 (aZ o 0 0 0 0)::ae lb 9 #[.string x,.string y]::os) w):
    Calls Tryz.prog 116 #[.pointer (some ⟨ib,0,none⟩),.string (if L then ⟨#[76]⟩ else ⟨#[83]⟩),.slice (some ⟨lb,0,none⟩) 2 2] w fun e w'=>e=.returned (.bool true)∧aa W (ae ib 39 (if L then aZ o r q 0 n else aZ o 0 q r n)::ae lb 9 #[.string x,.string y]::os) w':=by
  have HG:=Yh (kD hg hO)
  have H0:=Yh hO
  have bl:=hO.blk 1 rfl
  have hll:=bl.lt
  have l0:=(bl.cell 0).trans (rfl:_=some (Value.string x))
  cases L with
  | true =>
    simp only [if_true,if_false,Bool.false_eq_true]
    clear bl hg hO;go_enter Tryz.func116,Tryz.ntmps116
    go_wp2_with fail;refine (HR.out _ HG.out).mono ?_
    rintro e w1 ⟨rfl,hb1⟩;have H1:=Yh (H0.out.step hb1)
    have oN:=Yh (HG.out.below hb1)
    have xh:=H1.out.blk 1 rfl
    have hl1:=xh.lt
    have l1:=(xh.cell 1).trans (rfl:_=some (Value.string y))
    clear xh hb1 l0 hll
    go_wp2_with fail;refine (HP.out _ oN.out).mono ?_
    rintro e w2 ⟨rfl,hb2⟩;have H2:=Yh (H1.out.step hb2)
    have bi:=H2.out.blk 0 rfl
    have hil:=bi.lt
    have hfr:=fun i=>Blk.frozen bi i
    have c1:=(bi.cell 1).trans (rfl:_=some (Value.int .i64 0))
    have c2:=(bi.cell 2).trans (rfl:_=some (Value.int .i64 0))
    have c3:=(bi.cell 3).trans (rfl:_=some (Value.int .i64 0))
    have c4:=(bi.cell 4).trans (rfl:_=some (Value.int .i64 0))
    clear bi hb2 l1 hl1
    go_wp2_with fail;go_ret
    exact ⟨rfl,((H2.out.ay 0 rfl 4 (.int .i64 n)).ay 0 rfl 2 (.int .i64 q)).ay 0 rfl 1 (.int .i64 r)⟩
  | false =>
    simp only [if_true,if_false,Bool.false_eq_true]
    clear bl hg hO;go_enter Tryz.func116,Tryz.ntmps116
    go_wp2_with fail;refine (HR.out _ HG.out).mono ?_
    rintro e w1 ⟨rfl,hb1⟩;have H1:=Yh (H0.out.step hb1)
    have oN:=Yh (HG.out.below hb1)
    have xh:=H1.out.blk 1 rfl
    have hl1:=xh.lt
    have l1:=(xh.cell 1).trans (rfl:_=some (Value.string y))
    clear xh hb1 l0 hll
    go_wp2_with fail;refine (HP.out _ oN.out).mono ?_
    rintro e w2 ⟨rfl,hb2⟩;have H2:=Yh (H1.out.step hb2)
    have bi:=H2.out.blk 0 rfl
    have hil:=bi.lt
    have hfr:=fun i=>Blk.frozen bi i
    have c1:=(bi.cell 1).trans (rfl:_=some (Value.int .i64 0))
    have c2:=(bi.cell 2).trans (rfl:_=some (Value.int .i64 0))
    have c3:=(bi.cell 3).trans (rfl:_=some (Value.int .i64 0))
    have c4:=(bi.cell 4).trans (rfl:_=some (Value.int .i64 0))
    clear bi hb2 l1 hl1
    go_wp2_with fail;go_ret
    exact ⟨rfl,((H2.out.ay 0 rfl 4 (.int .i64 n)).ay 0 rfl 2 (.int .i64 q)).ay 0 rfl 3 (.int .i64 r)⟩
def eU:Nat→List UInt8|0=>[78]|1=>[73]|2=>[74]|3=>[82,73]|4=>[82]|5=>[65]|6=>[85]|_=>[66]
def bU:Nat→Nat|0=>1|1=>9|2=>17|3=>28|4=>39|5=>50|6=>58|_=>69
def bE:Nat→Nat|0=>2|1=>10|2=>18|3=>29|4=>40|5=>51|6=>59|_=>70
def bz:Nat→List Nat|0=>[]|1=>[1,4]|2=>[1,4]|3=>[1,2,4]|4=>[1,2,3]|5=>[1,2,3]|6=>[1,2]|_=>[2,3,4]
def pO (ib j:Nat):Array Value:=((bz j).map (fun f=>Value.pointer (some ⟨ib,f,none⟩))).toArray
def xk (g j:Nat):Value:=.slice (some ⟨g,0,none⟩) (bz j).length (bz j).length
def fD (dn:Nat→Bool) (x:Nat→Value) (k:List UInt8):Option Value:=match (List.range 8).find? (fun j=>eU j==k) with
  | some j=>if dn (bE j) then some (x (bU j)) else none
  | none=>none
theorem XM:∀ i,i<8→∀ j,j<8→eU i=eU j→i=j:=by decide
theorem NC:∀ i,i<8→∀ j,j<8→bE i=bE j→i=j:=by decide
theorem Dn:∀ i,i<8→∀ j,j<8→bU i=bU j→i=j:=by decide
theorem ve:∀ i,i<8→∀ j,j<8→bE i≠bU j:=by decide
theorem Dp:∀ i,i<8→bE i≠0:=by decide
theorem yY:∀ i,i<8→bU i≠0:=by decide
theorem ND:∀ i,i<8→(eU i).length≤2:=by decide
theorem He (dn:Nat→Bool) (x:Nat→Value) (j:Nat) (hj:j<8):fD dn x (eU j)=if dn (bE j) then some (x (bU j)) else none:=by
  unfold fD
  cases h:(List.range 8).find? (fun i=>eU i==eU j) with
  | none =>
    have:=List.find?_eq_none.1 h j (List.mem_range.2 hj)
    simp at this
  | some i =>
    have h1:=List.find?_some h
    have h2:=List.mem_range.1 (List.mem_of_find?_eq_some h)
    have h3:=XM i h2 j hj (by simpa using h1)
    subst h3
    rfl
theorem XN (dn Bl:Nat→Bool) (x x':Nat→Value) (h:∀ j,j<8→dn (bE j)=Bl (bE j)∧(dn (bE j)=true→x (bU j)=x' (bU j))):fD dn x=fD Bl x':=by
  funext k
  unfold fD
  cases hf:(List.range 8).find? (fun i=>eU i==k) with
  | none=>rfl
  | some i =>
    have h2:=List.mem_range.1 (List.mem_of_find?_eq_some hf)
    obtain ⟨h3,h4⟩:=h i h2
    simp only
    rw [← h3]
    cases hd:dn (bE i) with
    | true=>rw [h4 hd]
    | false=>rfl
theorem XO (dn:Nat→Bool) (x:Nat→Value) (v:Value) (j:Nat) (hj:j<8):xZ (fD dn x) (eU j) (some (x (bU j)))=fD (dZ dn (bE j)) (upd x (bE j) v):=by
  funext k
  unfold xZ;by_cases hk:k=eU j
  · subst hk
    rw [if_pos rfl,He _ _ _ hj];rw [show dZ dn (bE j) (bE j)=true from if_pos rfl,if_pos rfl];unfold upd;rw [if_neg (fun e=>ve j hj j hj e.symm)]
  · rw [if_neg hk]
    unfold fD
    cases hf:(List.range 8).find? (fun i=>eU i==k) with
    | none=>rfl
    | some i =>
      have h2:=List.mem_range.1 (List.mem_of_find?_eq_some hf)
      have h1:=List.find?_some hf
      have hne:i≠j:=fun e=>hk (by subst e;exact (by simpa using h1:eU i=k).symm)
      simp only
      have e2:upd x (bE j) v (bU i)=x (bU i):=if_neg (fun e=>ve j hj i h2 e.symm)
      have e3:dZ dn (bE j) (bE i)=dn (bE i):=if_neg (fun e=>hne (NC i h2 j hj e))
      rw [e2,e3]
def vg (dn:Nat→Bool):Nat:=(List.range 8).countP (fun j=>dn (bE j))
theorem XP (dn:Nat→Bool):vg dn≤8:=by
  have:=List.countP_le_length (p:=fun j=>dn (bE j)) (l:=List.range 8)
  rw [List.length_range] at this;exact this
theorem XQ (dn:Nat→Bool) (j:Nat) (hj:j<8) (h:dn (bE j)=false):vg dn+1≤vg (dZ dn (bE j)):=by
  unfold vg dZ;have key:∀ (l:List Nat),(∀ i∈l,i<8)→j∈l→l.countP (fun j=>dn (bE j))+1≤l.countP (fun i=>if bE i=bE j then true else dn (bE i)):=by
    intro l
    induction l with
    | nil=>intro _ hm;cases hm
    | cons a r ih =>
      intro hl hm;rw [List.countP_cons,List.countP_cons];have mono:r.countP (fun j=>dn (bE j))≤r.countP (fun i=>if bE i=bE j then true else dn (bE i)):=List.countP_mono_left (fun i _ hi=>by
        by_cases h:bE i=bE j
        · rw [if_pos h]
        · rw [if_neg h];exact hi)
      rcases List.mem_cons.1 hm with rfl|hm
      · rw [if_pos (rfl:bE j=bE j),h]
        simp only [Bool.false_eq_true,if_false,if_true]
        omega
      · have h1:=ih (fun i hi=>hl i (by simp [hi])) hm
        have h2:(if dn (bE a)=true then 1 else 0)≤(if (if bE a=bE j then true else dn (bE a))=true then 1 else 0):=by
          by_cases h:bE a=bE j
          · rw [if_pos h];split <;> simp
          · rw [if_neg h];exact Nat.le_refl _
        omega
  exact key _ (fun i hi=>List.mem_range.1 hi) (List.mem_range.2 hj)
def rT (dn:Nat→Bool) (x:Nat→Value) (b n:Nat):Oj:=if dn 0 then qz 9 (.slice none 0 0) b n (fD dn x) else qx
def fRow (dn:Nat→Bool) (gs:Nat→Nat) (ib j:Nat):Oj:=if dn (bU j) then ae (gs j) 319 (pO ib j) else qx
def lS (dn:Nat→Bool) (gs:Nat→Nat) (ib:Nat):List Oj:=(List.range 8).map (fRow dn gs ib)
def tN (W:World) (os:List Oj) (ib:Nat) (dn:Nat→Bool) (x:Nat→Value) (w:World):Prop:=∃ b n gs,aa W (rT dn x b n::(lS dn gs ib++os)) w∧n≤vg dn∧(dn 0=true→x 0=.map (some b)) ∧
  (∀ j,j<8→dn (bU j)=true→x (bU j)=xk (gs j) j)∧(∀ j,j<8→dn (bE j)=true→dn 0=true∧dn (bU j)=true)
section
variable {W w w':World} {os:List Oj} {A:Oj} {ib:Nat} {dn:Nat→Bool} {x:Nat→Value}
theorem aa.XR {l:List Oj} {i:Nat} (h:aa W (A::l) w) (hi:i<l.length):aa W (l.set i A) w:=by
  refine h.sub (fun k=>if k=i then 0 else k+1) (fun k O hk=>?_) (fun a b _ _ e=>?_)
  · show (A::l)[if k=i then 0 else k+1]? = some O
    rw [List.getElem?_set] at hk;by_cases e:i=k
    · subst e
      rw [if_pos rfl,if_pos hi] at hk;rw [if_pos rfl];exact hk
    · rw [if_neg e] at hk
      rw [if_neg (Ne.symm e)];exact hk
  · have e:(if a=i then 0 else a+1)=(if b=i then 0 else b+1):=e
    split at e <;> split at e <;> omega
theorem vk (gs:Nat→Nat):(lS dn gs ib).length=8:=by simp [lS]
theorem Dq (gs:Nat→Nat) (q:Nat) (hq:q<8):(lS dn gs ib)[q]? = some (fRow dn gs ib q):=by
  unfold lS;rw [List.getElem?_map,List.getElem?_range hq]
  rfl
theorem NF {Bl:Nat→Bool} {gs gs':Nat→Nat} (h:∀ j,j<8→dn (bU j)=Bl (bU j)∧(dn (bU j)=true→gs j=gs' j)):lS dn gs ib=lS Bl gs' ib:=by
  unfold lS;refine List.map_congr_left fun j hj=>?_
  obtain ⟨h1,h2⟩:=h j (List.mem_range.1 hj)
  unfold fRow;rw [← h1]
  cases hd:dn (bU j) with
  | true=>rw [h2 hd]
  | false=>rfl
theorem XT (h:tN W os ib dn x w) (h0:dn 0=false):tN W os ib (dZ dn 0) (upd x 0 (.map (some w.heap.size))) (w.alloc (.map #[] 0)):=by
  obtain ⟨b,n,gs,hO,hn,hb,hs,hi⟩:=h
  have hno:∀ j,j<8→dn (bE j)=false:=fun j hj=>by
    cases hd:dn (bE j) with
    | false=>rfl
    | true=>rw [(hi j hj hd).1] at h0;cases h0
  have h1:=(hO.drop 1).Kt 9 (.slice none 0 0)
  have e1:lS (dZ dn 0) gs ib=lS dn gs ib:=NF fun j hj=>⟨if_neg (yY j hj),fun _=>rfl⟩
  have e2:fD (dZ dn 0) (upd x 0 (.map (some w.heap.size)))=fun _=>none:=by
    funext k
    unfold fD
    cases hf:(List.range 8).find? (fun i=>eU i==k) with
    | none=>rfl
    | some i =>
      have h2:=List.mem_range.1 (List.mem_of_find?_eq_some hf)
      simp only
      unfold dZ;rw [if_neg (Dp i h2),hno i h2]
      rfl
  refine ⟨w.heap.size,0,gs,?_,Nat.zero_le _,fun _=>if_pos rfl,fun j hj hd=>?_,fun j hj hd=>?_⟩
  · unfold rT
    rw [if_pos (show dZ dn 0 0=true from if_pos rfl),e1,e2];exact h1
  · unfold dZ at hd
    rw [if_neg (yY j hj)] at hd;unfold upd;rw [if_neg (yY j hj)];exact hs j hj hd
  · unfold dZ at hd
    rw [if_neg (Dp j hj),hno j hj] at hd
    cases hd
theorem vw (h:tN W os ib dn x w) (q:Nat) (hq:q<8) (h0:dn (bU q)=false):tN W os ib (dZ dn (bU q)) (upd x (bU q) (xk w.heap.size q)) (w.alloc (.cells (pO ib q) 319)):=by
  obtain ⟨b,n,gs,hO,hn,hb,hs,hi⟩:=h
  have h1:=(hO.push (pO ib q) 319 rfl).XR (i:=q+1) (by simp [lS];omega)
  have XU:dn (bE q)=false:=by
    cases hd:dn (bE q) with
    | false=>rfl
    | true=>rw [(hi q hq hd).2] at h0;cases h0
  have e1:(lS dn gs ib++os).set q (ae w.heap.size 319 (pO ib q))=lS (dZ dn (bU q)) (fun j=>if j=q then w.heap.size else gs j) ib++os:=by
    rw [List.set_append_left _ _ (by rw [vk];exact hq)]
    congr 1
    refine List.ext_getElem? fun i=>?_
    rw [List.getElem?_set];by_cases xm:i<8
    · rw [Dq _ i xm,Dq _ i xm,vk]
      unfold fRow dZ;by_cases e:q=i
      · subst e
        rw [if_pos rfl,if_pos hq,if_pos rfl];simp
      · rw [if_neg e,if_neg (fun e2=>e (Dn i xm q hq e2).symm)]
        simp [Ne.symm e]
    · rw [if_neg (by omega),List.getElem?_eq_none (by rw [vk];omega),List.getElem?_eq_none (by rw [vk];omega)]
  have e2:fD (dZ dn (bU q)) (upd x (bU q) (xk w.heap.size q))=fD dn x:=XN _ _ _ _ fun j hj=>by
    have e:dZ dn (bU q) (bE j)=dn (bE j):=if_neg (ve j hj q hq)
    refine ⟨e,fun hd=>?_⟩
    rw [e] at hd;unfold upd;rw [if_neg];intro e3;have:=Dn j hj q hq e3
    subst this;rw [XU] at hd
    cases hd
  have e3:rT (dZ dn (bU q)) (upd x (bU q) (xk w.heap.size q)) b n=rT dn x b n:=by
    unfold rT;rw [e2,show dZ dn (bU q) 0=dn 0 from if_neg (fun e=>yY q hq e.symm)]
  have e4:vg (dZ dn (bU q))=vg dn:=by
    unfold vg;refine List.countP_congr fun j hj=>?_
    rw [show dZ dn (bU q) (bE j)=dn (bE j) from if_neg (ve j (List.mem_range.1 hj) q hq)]
  refine ⟨b,n,fun j=>if j=q then w.heap.size else gs j,?_,by rw [e4];exact hn,fun hd=>?_,fun j hj hd=>?_,fun j hj hd=>?_⟩
  · rw [e3]
    rw [List.set_cons_succ,e1] at h1;exact h1
  · unfold dZ at hd
    rw [if_neg (fun e=>yY q hq e.symm)] at hd
    unfold upd;rw [if_neg (fun e=>yY q hq e.symm)]
    exact hb hd
  · by_cases e:j=q
    · subst e
      unfold upd;simp
    · unfold dZ at hd
      rw [if_neg (fun e2=>e (Dn j hj q hq e2))] at hd
      unfold upd;rw [if_neg (fun e2=>e (Dn j hj q hq e2))]
      show x (bU j)=xk (if j=q then w.heap.size else gs j) j
      rw [if_neg e];exact hs j hj hd
  · unfold dZ at hd ⊢
    rw [if_neg (ve j hj q hq)] at hd;obtain ⟨a1,a2⟩:=hi j hj hd
    rw [a1,a2];simp
theorem vz (h:tN W os ib dn x w) (q:Nat) (hq:q<8) (h0:dn (bE q)=false) (hm:dn 0=true) (hs0:dn (bU q)=true) (mt et:TypeId) (hmt:Tryz.prog.underlying mt=some (.map 9 et)) (v:Value):
    ∃ w',(Instr.mapUpdate mt (x 0) (.string ⟨(eU q).toArray⟩) (x (bU q))).run Tryz.prog w=.ok () w'∧tN W os ib (dZ dn (bE q)) (upd x (bE q) v) w':=by
  obtain ⟨b,n,gs,hO,hn,hb,hs,hi⟩:=h
  have hO2:=hO
  unfold rT at hO2;rw [if_pos hm] at hO2;have hc:=XP dn
  have hsm:=hO2.smap 0 rfl
  have hf:fD dn x (eU q)=none:=by rw [He _ _ _ hq,h0];rfl
  have Hf:(⟨(eU q).toArray⟩:ByteArray).size≤maxLen:=by
    show (eU q).toArray.size≤maxLen
    rw [List.size_toArray];exact Nat.le_trans (ND q hq) (by decide)
  have hkd:(⟨(eU q).toArray⟩:ByteArray).data.toList=eU q:=rfl
  obtain ⟨w',r1,r2,r3⟩:=hsm.put (mt:=mt) (et:=et) Tryz.underlying9 hmt (x (bU q)) Hf (Nat.lt_of_le_of_lt (Nat.le_trans hn hc) (by decide))
  rw [hkd,hf] at r2;simp only [Option.isSome_none,Bool.false_eq_true,if_false] at r2
  rw [XO dn x v q hq] at r2;rw [← hb hm] at r1;have h3:=(hO2.Kr 0 rfl r2 r3).1
  rw [List.set_cons_zero] at h3;have e1:lS (dZ dn (bE q)) gs ib=lS dn gs ib:=NF fun j hj=>⟨if_neg (fun e=>ve q hq j hj e.symm),fun _=>rfl⟩
  refine ⟨w',r1,b,n+1,gs,?_,?_,fun hd=>?_,fun j hj hd=>?_,fun j hj hd=>?_⟩
  · unfold rT
    rw [show dZ dn (bE q) 0=true from (if_neg (fun e=>Dp q hq e.symm)).trans hm,if_pos rfl,e1]
    exact h3
  · have:=XQ dn q hq h0
    omega
  · unfold upd
    rw [if_neg (fun e=>Dp q hq e.symm)]
    exact hb hm
  · unfold dZ at hd
    rw [if_neg (fun e=>ve q hq j hj e.symm)] at hd
    unfold upd;rw [if_neg (fun e=>ve q hq j hj e.symm)]
    exact hs j hj hd
  · unfold dZ at hd ⊢
    by_cases e:j=q
    · subst e
      rw [hm,hs0];simp
    · rw [if_neg (fun e2=>e (NC j hj q hq e2))] at hd
      obtain ⟨a1,a2⟩:=hi j hj hd
      rw [a1,a2];simp
theorem XV (h:aa W os w) (h0:dn 0=false) (hS:∀ j,j<8→dn (bU j)=false) (hI:∀ j,j<8→dn (bE j)=false):tN W os ib dn x w:=by
  refine ⟨0,0,fun _=>0,?_,Nat.zero_le _,fun h=>(by rw [h0] at h;cases h),fun j hj h=>(by rw [hS j hj] at h;cases h),fun j hj h=>(by rw [hI j hj] at h;cases h)⟩
  have e:rT dn x 0 0::(lS dn (fun _=>0) ib++os)=qx::(List.replicate 8 qx++os):=by
    unfold rT;rw [h0]
    congr 1
    congr 1
    refine List.ext_getElem? fun i=>?_
    by_cases xm:i<8
    · rw [Dq _ i xm,List.getElem?_replicate,if_pos xm]
      unfold fRow;rw [hS i xm]
      rfl
    · rw [List.getElem?_eq_none (by rw [vk];omega),List.getElem?_eq_none (by simp;omega)]
  rw [e];exact h.nR.nR.nR.nR.nR.nR.nR.nR.nR
theorem XW (h:tN W os ib dn x w) (h0:dn 0=true) (hS:∀ j,j<8→dn (bU j)=true) (hI:∀ j,j<8→dn (bE j)=true) (q:Nat) (hq:q<8) (mt et:TypeId) (hmt:Tryz.prog.underlying mt=some (.map 9 et)) (hz:(zeroValue et).run Tryz.prog w=.ok (.slice none 0 0) w):
    ∃ g,(Instr.lookup mt (x 0) (.string ⟨(eU q).toArray⟩) false).run Tryz.prog w=.ok (xk g q) w∧aa W (ae g 319 (pO ib q)::os) w:=by
  obtain ⟨b,n,gs,hO,hnn,hb,hs,hi⟩:=h
  refine ⟨gs q,?_,?_⟩
  · unfold rT at hO
    rw [h0,if_pos rfl] at hO;have hsm:=hO.smap 0 rfl
    have Hf:(⟨(eU q).toArray⟩:ByteArray).size≤maxLen:=by
      show (eU q).toArray.size≤maxLen
      rw [List.size_toArray];exact Nat.le_trans (ND q hq) (by decide)
    have:=hsm.look (mt:=mt) (et:=et) Tryz.underlying9 hmt hz Hf
    rw [hb h0,this];have hkd:(⟨(eU q).toArray⟩:ByteArray).data.toList=eU q:=rfl
    rw [hkd,He _ _ _ hq,hI q hq,if_pos rfl,Option.getD_some,hs q hq (hS q hq)]
  · refine hO.sub (fun k=>if k=0 then q+1 else k+8) (fun k O hk=>?_) (fun a b _ _ e=>?_)
    · cases k with
      | zero =>
        simp only [List.getElem?_cons_zero,Option.some.injEq] at hk
        subst hk;simp only [if_true,List.getElem?_cons_succ]
        rw [List.getElem?_append_left (by rw [vk];exact hq),Dq _ q hq]
        unfold fRow;rw [hS q hq]
        rfl
      | succ k =>
        simp only [List.getElem?_cons_succ] at hk
        rw [if_neg (by omega),show k+1+8=(k+8)+1 by omega,List.getElem?_cons_succ,List.getElem?_append_right (by rw [vk];omega),vk,show k+8-8=k by omega]
        exact hk
    · have e:(if a=0 then q+1 else a+8)=(if b=0 then q+1 else b+8):=e
      split at e <;> split at e <;> omega
end
end Go.Proofs.YtnebdlchogmneaaGreatDoor
