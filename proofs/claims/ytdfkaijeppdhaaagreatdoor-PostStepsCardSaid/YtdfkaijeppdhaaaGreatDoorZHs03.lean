/- Part of the proof. -/
import Derived.Shelf.SlSortCmp.WholeK
import Derived.Shelf.SlicesQ.Equal
import Derived.Shelf.SlicesE.Clone
import Derived.Shelf.Strings.OnBuilder
import Derived.Shelf.Small.Wraps
import Derived.Shelf.Strings.BuilderK
import Derived.Shelf.Strconv.Itoa3
import Derived.Shelf.Strconv.AtoiAll
import Derived.Shelf.Strings.Shaped
import Derived.Shelf.GgClosure.StringsRunes
import Derived.Shelf.Strings.SplitShaped
import Derived.Shelf.Strings.Runes
import Derived.Shelf.Strings.AsciiSet
import Derived.Lib.MapLaws
import Derived.Test.YtdfkaijeppdhaaaGreatDoorZHs02

set_option maxRecDepth 100000
set_option maxHeartbeats 8000000

namespace Go.Proofs
open Proofs.Tryz Go.Shelf
def Tryz.lays169_ren:Go.Shelf.Ren:=⟨fun|169=>93|n=>n,fun|70=>149|9=>9|0=>0|72=>151|37=>65|127=>186|3=>3|5=>5|n=>n,fun|n=>n⟩
theorem lays169:Go.Proofs.Lays.n169 prog Tryz.lays169_ren:={
 mixed:=ot
 f169:=func93.trans oq
 t0:=underlying0
 a0:=isAgg0
 z0:=sizeOf0
 v0:=zeroValue0
 t3:=underlying3
 a3:=isAgg3
 z3:=sizeOf3
 v3:=zeroValue3
 t9:=underlying9
 a9:=isAgg9
 z9:=sizeOf9
 v9:=zeroValue9
 t37:=underlying65
 a37:=isAgg65
 z37:=sizeOf65
 v37:=zeroValue65
 t70:=underlying149
 a70:=isAgg149
 z70:=sizeOf149
 v70:=zeroValue149
 t72:=underlying151
 a72:=isAgg151
 z72:=sizeOf151
 v72:=zeroValue151
 t127:=underlying186
 a127:=isAgg186
 z127:=sizeOf186
 v127:=zeroValue186}
theorem Tryz.Builder_Extra_169:Builder.Extra prog Tryz.lays169_ren:={
 sizeBuilder:=ot
 liesBuilder:=ot
 t5:=underlying5
 a5:=isAgg5
 z5:=sizeOf5
 v5:=zeroValue5
 infoByte:=ot
 cellsByte:=ot
 sizeByte:=ot
 neB5:=by decide}
open Go.RowKit in
def Tryz.lays156_ren:Go.Shelf.Ren:=⟨fun|156=>85|165=>112|166=>91|169=>93|240=>120|241=>147|276=>153|277=>191|n=>n,fun|31=>22|9=>9|3=>3|4=>4|0=>0|20=>20|72=>151|76=>154|70=>149|37=>65|75=>153|127=>186|164=>217|5=>5|80=>55|n=>n,fun|n=>n⟩
theorem lays156:Go.Proofs.Lays.n156 prog Tryz.lays156_ren:={
 mixed:=ot
 f156:=func85.trans oq
 f165:=func112.trans oq
 f166:=func91.trans oq
 f169:=func93.trans oq
 f240:=func120.trans oq
 f241:=func147.trans oq
 f276:=func153.trans oq
 f277:=func191.trans oq
 t0:=underlying0
 a0:=isAgg0
 z0:=sizeOf0
 v0:=zeroValue0
 t3:=underlying3
 a3:=isAgg3
 z3:=sizeOf3
 v3:=zeroValue3
 t4:=underlying4
 a4:=isAgg4
 z4:=sizeOf4
 v4:=zeroValue4
 t9:=underlying9
 a9:=isAgg9
 z9:=sizeOf9
 v9:=zeroValue9
 t20:=underlying20
 a20:=isAgg20
 z20:=sizeOf20
 v20:=zeroValue20
 t31:=underlying22
 a31:=isAgg22
 z31:=sizeOf22
 v31:=zeroValue22
 t37:=underlying65
 a37:=isAgg65
 z37:=sizeOf65
 v37:=zeroValue65
 t70:=underlying149
 a70:=isAgg149
 z70:=sizeOf149
 v70:=zeroValue149
 t72:=underlying151
 a72:=isAgg151
 z72:=sizeOf151
 v72:=zeroValue151
 t75:=underlying153
 a75:=isAgg153
 z75:=sizeOf153
 v75:=zeroValue153
 t76:=underlying154
 a76:=isAgg154
 z76:=sizeOf154
 v76:=zeroValue154
 t127:=underlying186
 a127:=isAgg186
 z127:=sizeOf186
 v127:=zeroValue186
 t164:=underlying217
 a164:=isAgg217
 z164:=sizeOf217
 v164:=zeroValue217}
theorem Tryz.Builder_Extra_156:Builder.Extra prog Tryz.lays156_ren:={
 sizeBuilder:=ot
 liesBuilder:=ot
 t5:=underlying5
 a5:=isAgg5
 z5:=sizeOf5
 v5:=zeroValue5
 infoByte:=ot
 cellsByte:=ot
 sizeByte:=ot
 neB5:=by decide}
open Go.RowKit in
theorem Tryz.strings_Join_none(a:Option Addr)(c:Nat)(sep:ByteArray)(w:World):
  Calls prog 85 #[.slice a 0 c,.string sep] w fun e w'=>e= .returned (.string ⟨#[]⟩)/\w'=w:=Any.strings_Join_none lays156 Tryz.Builder_Extra_156 a c sep w
open Go.RowKit in
theorem Tryz.strings_Join(bk o c:Nat)(xs:List ByteArray)(sep:ByteArray)(w:World)(hcells:∀(j:Nat) x,xs[j]? =some x->w.cell? ⟨bk,o+j,none⟩=some (.string x))(hbk:bk<w.heap.size)(hN:xs.length<=140737488355328)(hcap:xs.length<=c)(hlen:(Lib.join (xs.map (·.data.toList)) sep.data.toList).length<=140737488355328):
  Calls prog 85 #[.slice (some ⟨bk,o,none⟩) xs.length c,.string sep] w fun e w'=>e= .returned (.string ⟨(Lib.join (xs.map (·.data.toList)) sep.data.toList).toArray⟩)/\Below w.heap.size w w':=Any.strings_Join lays156 Tryz.Builder_Extra_156 bk o c xs sep w hcells hbk hN hcap hlen
def Tryz.lays137_ren:Go.Shelf.Ren:=⟨fun|137=>126|217=>165|266=>209|n=>n,fun|9=>9|5=>5|3=>3|n=>n,fun|n=>n⟩
theorem lays137:Go.Proofs.Lays.n137 prog Tryz.lays137_ren:={
 mixed:=ot
 f137:=func126.trans oq
 f217:=func165.trans oq
 f266:=func209.trans oq
 t3:=underlying3
 a3:=isAgg3
 z3:=sizeOf3
 v3:=zeroValue3
 t5:=underlying5
 a5:=isAgg5
 z5:=sizeOf5
 v5:=zeroValue5
 t9:=underlying9
 a9:=isAgg9
 z9:=sizeOf9
 v9:=zeroValue9}
open Go.RowKit in
theorem Tryz.strings_IndexByte(s:ByteArray)(c:Int)(w:World):
  Calls prog 126 #[.string s,.int .u8 c] w fun e w'=>e= .returned (.int .i64 (Lib.indexByte s.data.toList c.toNat.toUInt8))/\w'=w:=Any.strings_IndexByte lays137 s c w
def Tryz.lays103_ren:Go.Shelf.Ren:=⟨fun|103=>82|210=>109|206=>142|n=>n,fun|9=>9|4=>4|24=>129|3=>3|n=>n,fun|n=>n⟩
theorem lays103:Go.Proofs.Lays.n103 prog Tryz.lays103_ren:={
 mixed:=ot
 f103:=func82.trans oq
 f206:=func142.trans oq
 f210:=func109.trans oq
 t3:=underlying3
 a3:=isAgg3
 z3:=sizeOf3
 v3:=zeroValue3
 t4:=underlying4
 a4:=isAgg4
 z4:=sizeOf4
 v4:=zeroValue4
 t9:=underlying9
 a9:=isAgg9
 z9:=sizeOf9
 v9:=zeroValue9
 t24:=underlying129
 a24:=isAgg129
 z24:=sizeOf129
 v24:=zeroValue129}
open Go.RowKit in
theorem Tryz.strings_CutPrefix(s p:ByteArray)(w:World):
  Calls prog 82 #[.string s,.string p] w fun e w'=>e= .returned (.tuple #[.string ⟨(Lib.trimPrefix s.data.toList p.data.toList).toArray⟩,.bool (Lib.hasPrefix s.data.toList p.data.toList)])/\w'=w:=Any.strings_CutPrefix lays103 s p w
def Tryz.lays122_ren:Go.Shelf.Ren:=⟨fun|122=>124|215=>164|n=>n,fun|3=>3|4=>4|n=>n,fun|n=>n⟩
theorem lays122:Go.Proofs.Lays.n122 prog Tryz.lays122_ren:={
 mixed:=ot
 f122:=func124.trans oq
 f215:=func164.trans oq
 t3:=underlying3
 a3:=isAgg3
 z3:=sizeOf3
 v3:=zeroValue3
 t4:=underlying4
 a4:=isAgg4
 z4:=sizeOf4
 v4:=zeroValue4}
open Go.RowKit in
theorem Tryz.cmp_Compare_int(x y:Int)(w:World):
  Calls prog 124 #[.int .i64 x,.int .i64 y] w fun e w'=>e= .returned (.int .i64 (Lib.compareInt x y))/\w'=w:=Any.cmp_Compare_int lays122 x y w
def Tryz.laysM171_ren:Go.Shelf.Ren:=⟨fun|171=>48|243=>83|246=>110|283=>143|284=>144|285=>145|286=>146|129=>163|317=>187|318=>188|319=>189|320=>190|337=>225|338=>226|n=>n,fun|3=>3|9=>9|2=>2|4=>4|171=>210|0=>0|53=>211|37=>65|5=>5|173=>214|212=>243|51=>30|20=>20|213=>244|46=>189|232=>299|233=>300|n=>n,fun|17=>1|18=>4|19=>5|n=>n⟩
theorem Tryz.laysM171:Go.Proofs.LaysM.n171 prog Tryz.laysM171_ren:={
 mixed:=ot
 f129:=func163.trans oq
 f171:=func48.trans oq
 f243:=func83.trans oq
 f246:=func110.trans oq
 f283:=func143.trans oq
 f284:=func144.trans oq
 f285:=func145.trans oq
 f286:=func146.trans oq
 f317:=func187.trans oq
 f318:=func188.trans oq
 f319:=func189.trans oq
 f320:=func190.trans oq
 f337:=func225.trans oq
 f338:=func226.trans oq
 t0:=underlying0
 a0:=isAgg0
 z0:=sizeOf0
 v0:=zeroValue0
 t2:=underlying2
 a2:=isAgg2
 z2:=sizeOf2
 v2:=zeroValue2
 t3:=underlying3
 a3:=isAgg3
 z3:=sizeOf3
 v3:=zeroValue3
 t4:=underlying4
 a4:=isAgg4
 z4:=sizeOf4
 v4:=zeroValue4
 t5:=underlying5
 a5:=isAgg5
 z5:=sizeOf5
 v5:=zeroValue5
 t9:=underlying9
 a9:=isAgg9
 z9:=sizeOf9
 v9:=zeroValue9
 t20:=underlying20
 a20:=isAgg20
 z20:=sizeOf20
 v20:=zeroValue20
 t37:=underlying65
 a37:=isAgg65
 z37:=sizeOf65
 v37:=zeroValue65
 t46:=underlying189
 a46:=isAgg189
 z46:=sizeOf189
 v46:=zeroValue189
 t51:=underlying30
 a51:=isAgg30
 z51:=sizeOf30
 v51:=zeroValue30
 t53:=underlying211
 a53:=isAgg211
 z53:=sizeOf211
 v53:=zeroValue211
 t171:=underlying210
 a171:=isAgg210
 z171:=sizeOf210
 v171:=zeroValue210
 t173:=underlying214
 a173:=isAgg214
 z173:=sizeOf214
 v173:=zeroValue214
 t212:=underlying243
 a212:=isAgg243
 z212:=sizeOf243
 v212:=zeroValue243
 t213:=underlying244
 a213:=isAgg244
 z213:=sizeOf244
 t232:=underlying299
 a232:=isAgg299
 z232:=sizeOf299
 v232:=zeroValue299
 t233:=underlying300
 a233:=isAgg300
 z233:=sizeOf300
 v233:=zeroValue300
 g17:=ot
 g18:=ot
 g19:=ot
 i0:=ot
 i2:=ot
 i3:=ot
 i4:=ot
 i5:=ot
 i9:=ot
 i20:=ot
 i37:=ot
 i46:=ot
 i51:=ot
 i53:=ot
 i171:=ot
 i173:=ot
 i212:=ot
 i232:=ot
 i233:=ot
 m17:=ot
 m18:=ot
 m19:=by kernel_rfl}
open Go.RowKit Go.Sort Go.Lib in
theorem Tryz.strconv_Itoa(n:Int)(h0: -9223372036854775808<=n)(h1:n<=9223372036854775807)(w:World)(htab:Lib.TabIs prog w "internal/strconv.uint64pow10" .u64 Lib.pow10Tab):
  Calls prog 48 #[.int .i64 n] w fun e w'=>e= .returned (.string ⟨(Lib.itoa n).toArray⟩)/\∃k os,w'=grow (w.drewN k) os:=Any.strconv_Itoa Tryz.laysM171 n h0 h1 w htab
def Tryz.laysC172_ren:Go.Shelf.Ren:=⟨fun|172=>101|244=>129|245=>130|247=>170|279=>171|280=>172|281=>173|282=>174|287=>213|316=>214|171=>48|205=>215|321=>240|322=>241|243=>83|246=>110|283=>143|284=>144|285=>145|286=>146|129=>163|317=>187|318=>188|319=>189|320=>190|337=>225|338=>226|n=>n,fun|9=>9|3=>3|75=>153|76=>154|4=>4|5=>5|167=>228|37=>65|0=>0|85=>229|2=>2|168=>231|53=>211|175=>269|46=>189|210=>273|127=>186|145=>298|143=>296|21=>21|171=>210|173=>214|212=>243|51=>30|20=>20|213=>244|232=>299|233=>300|80=>55|n=>n,fun|15=>2|16=>3|17=>1|18=>4|19=>5|n=>n⟩
theorem Tryz.laysC172:Go.Proofs.LaysC.n172 prog Tryz.laysC172_ren:={
 mixed:=ot
 f129:=func163.trans oq
 f171:=func48.trans oq
 f172:=func101.trans oq
 f205:=func215.trans oq
 f243:=func83.trans oq
 f244:=func129.trans oq
 f245:=func130.trans oq
 f246:=func110.trans oq
 f247:=func170.trans oq
 f279:=func171.trans oq
 f280:=func172.trans oq
 f281:=func173.trans oq
 f282:=func174.trans oq
 f283:=func143.trans oq
 f284:=func144.trans oq
 f285:=func145.trans oq
 f286:=func146.trans oq
 f287:=func213.trans oq
 f316:=func214.trans oq
 f317:=func187.trans oq
 f318:=func188.trans oq
 f319:=func189.trans oq
 f320:=func190.trans oq
 f321:=func240.trans oq
 f322:=func241.trans oq
 f337:=func225.trans oq
 f338:=func226.trans oq
 t0:=underlying0
 a0:=isAgg0
 z0:=sizeOf0
 v0:=zeroValue0
 t2:=underlying2
 a2:=isAgg2
 z2:=sizeOf2
 v2:=zeroValue2
 t3:=underlying3
 a3:=isAgg3
 z3:=sizeOf3
 v3:=zeroValue3
 t4:=underlying4
 a4:=isAgg4
 z4:=sizeOf4
 v4:=zeroValue4
 t5:=underlying5
 a5:=isAgg5
 z5:=sizeOf5
 v5:=zeroValue5
 t9:=underlying9
 a9:=isAgg9
 z9:=sizeOf9
 v9:=zeroValue9
 t20:=underlying20
 a20:=isAgg20
 z20:=sizeOf20
 v20:=zeroValue20
 t21:=underlying21
 a21:=isAgg21
 z21:=sizeOf21
 v21:=zeroValue21
 t37:=underlying65
 a37:=isAgg65
 z37:=sizeOf65
 v37:=zeroValue65
 t46:=underlying189
 a46:=isAgg189
 z46:=sizeOf189
 v46:=zeroValue189
 t51:=underlying30
 a51:=isAgg30
 z51:=sizeOf30
 v51:=zeroValue30
 t53:=underlying211
 a53:=isAgg211
 z53:=sizeOf211
 v53:=zeroValue211
 t75:=underlying153
 a75:=isAgg153
 z75:=sizeOf153
 v75:=zeroValue153
 t76:=underlying154
 a76:=isAgg154
 z76:=sizeOf154
 v76:=zeroValue154
 t85:=underlying229
 a85:=isAgg229
 z85:=sizeOf229
 v85:=zeroValue229
 t127:=underlying186
 a127:=isAgg186
 z127:=sizeOf186
 v127:=zeroValue186
 t143:=underlying296
 a143:=isAgg296
 z143:=sizeOf296
 v143:=zeroValue296
 t145:=underlying298
 a145:=isAgg298
 z145:=sizeOf298
 v145:=zeroValue298
 t167:=underlying228
 a167:=isAgg228
 z167:=sizeOf228
 v167:=zeroValue228
 t168:=underlying231
 a168:=isAgg231
 z168:=sizeOf231
 v168:=zeroValue231
 t171:=underlying210
 a171:=isAgg210
 z171:=sizeOf210
 v171:=zeroValue210
 t173:=underlying214
 a173:=isAgg214
 z173:=sizeOf214
 v173:=zeroValue214
 t175:=underlying269
 a175:=isAgg269
 z175:=sizeOf269
 v175:=zeroValue269
 t210:=underlying273
 a210:=isAgg273
 z210:=sizeOf273
 v210:=zeroValue273
 t212:=underlying243
 a212:=isAgg243
 z212:=sizeOf243
 v212:=zeroValue243
 t213:=underlying244
 a213:=isAgg244
 z213:=sizeOf244
 t232:=underlying299
 a232:=isAgg299
 z232:=sizeOf299
 v232:=zeroValue299
 t233:=underlying300
 a233:=isAgg300
 z233:=sizeOf300
 v233:=zeroValue300
 g15:=ot
 g16:=ot
 g17:=ot
 g18:=ot
 g19:=ot
 t80:=underlying55
 a80:=isAgg55
 z80:=sizeOf55
 v80:=zeroValue55
 i0:=ot
 i2:=ot
 i3:=ot
 i4:=ot
 i5:=ot
 i9:=ot
 i20:=ot
 i21:=ot
 i37:=ot
 i46:=ot
 i51:=ot
 i53:=ot
 i75:=ot
 i76:=ot
 i80:=ot
 i85:=ot
 i127:=ot
 i143:=ot
 i145:=ot
 i167:=ot
 i168:=ot
 i171:=ot
 i173:=ot
 i175:=ot
 i210:=ot
 i212:=ot
 i232:=ot
 i233:=ot
 m15:=ot
 m16:=ot
 m17:=ot
 m18:=ot
 m19:=ot
 c0:=ot
 c2:=ot
 c3:=ot
 c4:=ot
 c5:=ot
 c9:=ot
 c20:=ot
 c21:=ot
 c37:=ot
 c46:=ot
 c51:=ot
 c53:=ot
 c75:=ot
 c76:=ot
 c80:=ot
 c85:=ot
 c127:=ot
 c143:=ot
 c145:=ot
 c167:=ot
 c168:=ot
 c171:=ot
 c173:=ot
 c175:=ot
 c210:=ot
 c212:=ot
 c213:=ot
 c232:=ot
 c233:=by kernel_rfl}
open Go.RowKit in
theorem Tryz.strconv_Atoi_ok(s:ByteArray)(hmax:s.size<=9223372036854775806)(v:Int)(h:Lib.atoiAll s.data.toList= .ok v)(w:World):
  Calls prog 101 #[.string s] w fun e w'=>e= .returned (.tuple #[.int .i64 v,.nilIface])/\(w'=w\/∃t,w'=Lib.bytesWorld w 5 t):=Any.strconv_Atoi_ok Tryz.laysC172 s hmax v h w
open Go.RowKit in
open Go.RowKit in
theorem Tryz.strconv_Atoi_range(s:ByteArray)(hlim:s.size<=281474976710656)(h:Lib.atoiAll s.data.toList= .range)(ev:Value)(w:World)(hv:w.cell? ⟨3,0,none⟩=some ev)(hev:ev= .nilIface\/∃te pe,ev= .iface te pe):
  Calls prog 101 #[.string s] w fun e w'=>∃N,e= .returned (.tuple #[.int .i64 (Lib.atoiSat s.data.toList),.iface 231 (.pointer (some ⟨N,0,none⟩))])/\w.heap.size<=N/\w'.heap[N]? =some (.cells #[.string ⟨#[65,116,111,105]⟩,.string s,ev] 273 (0,0))/\Below w.heap.size w w':=Any.strconv_Atoi_range Tryz.laysC172 s hlim h ev w hv hev
def Tryz.lays145_ren:Go.Shelf.Ren:=⟨fun|145=>80|220=>108|219=>141|217=>165|225=>184|224=>185|267=>186|266=>209|314=>224|n=>n,fun|9=>9|4=>4|59=>114|3=>3|5=>5|46=>189|146=>280|51=>30|n=>n,fun|1=>0|n=>n⟩
theorem lays145:Go.Proofs.Lays.n145 prog Tryz.lays145_ren:={
 mixed:=ot
 f145:=func80.trans oq
 f217:=func165.trans oq
 f219:=func141.trans oq
 f220:=func108.trans oq
 f224:=func185.trans oq
 f225:=func184.trans oq
 f266:=func209.trans oq
 f267:=func186.trans oq
 f314:=func224.trans oq
 t3:=underlying3
 a3:=isAgg3
 z3:=sizeOf3
 v3:=zeroValue3
 t4:=underlying4
 a4:=isAgg4
 z4:=sizeOf4
 v4:=zeroValue4
 t5:=underlying5
 a5:=isAgg5
 z5:=sizeOf5
 v5:=zeroValue5
 t9:=underlying9
 a9:=isAgg9
 z9:=sizeOf9
 v9:=zeroValue9
 t46:=underlying189
 a46:=isAgg189
 z46:=sizeOf189
 v46:=zeroValue189
 t51:=underlying30
 a51:=isAgg30
 z51:=sizeOf30
 v51:=zeroValue30
 t59:=underlying114
 a59:=isAgg114
 z59:=sizeOf114
 v59:=zeroValue114
 t146:=underlying280
 a146:=isAgg280
 z146:=sizeOf280
 v146:=zeroValue280
 g1:=by kernel_rfl}
open Go.RowKit Go.Lib in
theorem Tryz.strings_Cut(s sep:ByteArray)(m:Int)(w:World)(hs:s.size<4294967281)(hm:w.cell? ⟨0,0,none⟩=some (.int .i64 m)):
  Calls prog 80 #[.string s,.string sep] w fun e w'=>e= .returned (.tuple #[.string ⟨(Lib.cut s.data.toList sep.data.toList).1.toArray⟩,.string ⟨(Lib.cut s.data.toList sep.data.toList).2.1.toArray⟩,.bool (Lib.cut s.data.toList sep.data.toList).2.2])/\∃n,w'=w.drewN n:=Any.strings_Cut lays145 s sep m w hs hm
def Tryz.laysGw17_ren:Go.Shelf.Ren:=⟨fun|17=>113|15=>148|20=>192|n=>n,fun|9=>9|23=>182|4=>4|3=>3|0=>0|21=>21|n=>n,fun|n=>n⟩
theorem Tryz.laysGw17:Go.Proofs.LaysGw.n17 prog Tryz.laysGw17_ren:={
 mixed:=ot
 f15:=func148.trans oq
 f17:=func113.trans oq
 f20:=func192.trans oq
 t0:=underlying0
 a0:=isAgg0
 z0:=sizeOf0
 v0:=zeroValue0
 i0:=ot
 t3:=underlying3
 a3:=isAgg3
 z3:=sizeOf3
 v3:=zeroValue3
 i3:=ot
 t4:=underlying4
 a4:=isAgg4
 z4:=sizeOf4
 v4:=zeroValue4
 i4:=ot
 t9:=underlying9
 a9:=isAgg9
 z9:=sizeOf9
 v9:=zeroValue9
 i9:=ot
 t21:=underlying21
 a21:=isAgg21
 z21:=sizeOf21
 v21:=zeroValue21
 i21:=ot
 t23:=underlying182
 a23:=isAgg182
 z23:=sizeOf182
 v23:=zeroValue182
 i23:=by kernel_rfl}
open Go.RowKit Go.Lib in
theorem Tryz.strings_ContainsFunc(g:Nat)(lb:Array Value)(eg:∀args w,(callFunc g args).run prog w= .ok (.enter g args) w)(p:Nat->Bool)(s:ByteArray)(w:World)(hp:PredAt prog g lb encR p w):
  Calls prog 113 #[.string s,.func (.func g) #[] lb] w fun e w'=>e= .returned (.bool (decide (0<=Lib.idxFunc p true s)))/\Below w.heap.size w w':=Any.strings_ContainsFunc Tryz.laysGw17 g lb eg p s w hp
def Tryz.lays102_ren:Go.Shelf.Ren:=⟨fun|102=>100|209=>128|207=>169|n=>n,fun|9=>9|4=>4|3=>3|n=>n,fun|n=>n⟩
theorem lays102:Go.Proofs.Lays.n102 prog Tryz.lays102_ren:={
 mixed:=ot
 f102:=func100.trans oq
 f207:=func169.trans oq
 f209:=func128.trans oq
 t3:=underlying3
 a3:=isAgg3
 z3:=sizeOf3
 v3:=zeroValue3
 t4:=underlying4
 a4:=isAgg4
 z4:=sizeOf4
 v4:=zeroValue4
 t9:=underlying9
 a9:=isAgg9
 z9:=sizeOf9
 v9:=zeroValue9}
open Go.RowKit Go.Lib in
theorem Tryz.strings_TrimSuffix(s p:ByteArray)(w:World)(hs:s.size<=9223372036854775807):
  Calls prog 100 #[.string s,.string p] w fun e w'=>e= .returned (.string ⟨(Lib.trimSuffix s.data.toList p.data.toList).toArray⟩)/\w'=w:=Any.strings_TrimSuffix lays102 s p w hs
def Tryz.lays146_ren:Go.Shelf.Ren:=⟨fun|146=>111|221=>127|268=>166|138=>167|143=>168|195=>210|197=>211|218=>212|219=>141|260=>239|217=>165|225=>184|224=>185|267=>186|266=>209|314=>224|n=>n,fun|9=>9|31=>22|3=>3|4=>4|0=>0|105=>267|21=>21|5=>5|46=>189|119=>304|139=>307|138=>306|146=>280|51=>30|n=>n,fun|1=>0|3=>6|4=>7|n=>n⟩
theorem lays146:Go.Proofs.Lays.n146 prog Tryz.lays146_ren:={
 mixed:=ot
 f138:=func167.trans oq
 f143:=func168.trans oq
 f146:=func111.trans oq
 f195:=func210.trans oq
 f197:=func211.trans oq
 f217:=func165.trans oq
 f218:=func212.trans oq
 f219:=func141.trans oq
 f221:=func127.trans oq
 f224:=func185.trans oq
 f225:=func184.trans oq
 f260:=func239.trans oq
 f266:=func209.trans oq
 f267:=func186.trans oq
 f268:=func166.trans oq
 f314:=func224.trans oq
 t0:=underlying0
 a0:=isAgg0
 z0:=sizeOf0
 v0:=zeroValue0
 t3:=underlying3
 a3:=isAgg3
 z3:=sizeOf3
 v3:=zeroValue3
 t4:=underlying4
 a4:=isAgg4
 z4:=sizeOf4
 v4:=zeroValue4
 t5:=underlying5
 a5:=isAgg5
 z5:=sizeOf5
 v5:=zeroValue5
 t9:=underlying9
 a9:=isAgg9
 z9:=sizeOf9
 v9:=zeroValue9
 t21:=underlying21
 a21:=isAgg21
 z21:=sizeOf21
 v21:=zeroValue21
 t31:=underlying22
 a31:=isAgg22
 z31:=sizeOf22
 v31:=zeroValue22
 t46:=underlying189
 a46:=isAgg189
 z46:=sizeOf189
 v46:=zeroValue189
 t51:=underlying30
 a51:=isAgg30
 z51:=sizeOf30
 v51:=zeroValue30
 t105:=underlying267
 a105:=isAgg267
 z105:=sizeOf267
 v105:=zeroValue267
 t119:=underlying304
 a119:=isAgg304
 z119:=sizeOf304
 t138:=underlying306
 a138:=isAgg306
 z138:=sizeOf306
 v138:=zeroValue306
 t139:=underlying307
 a139:=isAgg307
 z139:=sizeOf307
 v139:=zeroValue307
 t146:=underlying280
 a146:=isAgg280
 z146:=sizeOf280
 v146:=zeroValue280
 g1:=ot
 g3:=ot
 g4:=by kernel_rfl}
open Go.RowKit Go.Lib in
theorem Tryz.strings_Split(s sep:ByteArray)(m:Int)(w:World)(hs:s.size<4294967281)(hm:w.cell? ⟨0,0,none⟩=some (.int .i64 m))(h1:1<=sep.size):
  Calls prog 111 #[.string s,.string sep] w fun e w'=>
   e= .returned (.slice (some ⟨w.heap.size,0,none⟩) (Lib.countB s sep+1) (Lib.countB s sep+1))/\w'=w.alloc (.cells ((Lib.splitB sep 0 (Lib.countB s sep) s).map Value.string).toArray 9):=Any.strings_Split lays146 ot s sep m w hs hm h1
def Tryz.lays147_ren:Go.Shelf.Ren:=⟨fun|147=>99|221=>127|268=>166|138=>167|143=>168|195=>210|197=>211|218=>212|219=>141|260=>239|217=>165|225=>184|224=>185|267=>186|266=>209|314=>224|n=>n,fun|9=>9|3=>3|31=>22|4=>4|0=>0|105=>267|21=>21|5=>5|46=>189|119=>304|139=>307|138=>306|146=>280|51=>30|n=>n,fun|1=>0|3=>6|4=>7|n=>n⟩
theorem lays147:Go.Proofs.Lays.n147 prog Tryz.lays147_ren:={
 mixed:=ot
 f138:=func167.trans oq
 f143:=func168.trans oq
 f147:=func99.trans oq
 f195:=func210.trans oq
 f197:=func211.trans oq
 f217:=func165.trans oq
 f218:=func212.trans oq
 f219:=func141.trans oq
 f221:=func127.trans oq
 f224:=func185.trans oq
 f225:=func184.trans oq
 f260:=func239.trans oq
 f266:=func209.trans oq
 f267:=func186.trans oq
 f268:=func166.trans oq
 f314:=func224.trans oq
 t0:=underlying0
 a0:=isAgg0
 z0:=sizeOf0
 v0:=zeroValue0
 t3:=underlying3
 a3:=isAgg3
 z3:=sizeOf3
 v3:=zeroValue3
 t4:=underlying4
 a4:=isAgg4
 z4:=sizeOf4
 v4:=zeroValue4
 t5:=underlying5
 a5:=isAgg5
 z5:=sizeOf5
 v5:=zeroValue5
 t9:=underlying9
 a9:=isAgg9
 z9:=sizeOf9
 v9:=zeroValue9
 t21:=underlying21
 a21:=isAgg21
 z21:=sizeOf21
 v21:=zeroValue21
 t31:=underlying22
 a31:=isAgg22
 z31:=sizeOf22
 v31:=zeroValue22
 t46:=underlying189
 a46:=isAgg189
 z46:=sizeOf189
 v46:=zeroValue189
 t51:=underlying30
 a51:=isAgg30
 z51:=sizeOf30
 v51:=zeroValue30
 t105:=underlying267
 a105:=isAgg267
 z105:=sizeOf267
 v105:=zeroValue267
 t119:=underlying304
 a119:=isAgg304
 z119:=sizeOf304
 t138:=underlying306
 a138:=isAgg306
 z138:=sizeOf306
 v138:=zeroValue306
 t139:=underlying307
 a139:=isAgg307
 z139:=sizeOf307
 v139:=zeroValue307
 t146:=underlying280
 a146:=isAgg280
 z146:=sizeOf280
 v146:=zeroValue280
 g1:=ot
 g3:=ot
 g4:=by kernel_rfl}
open Go.RowKit Go.Lib in
theorem Tryz.strings_SplitN(s sep:ByteArray)(n:Nat)(m:Int)(w:World)(hs:s.size<4294967281)(hm:w.cell? ⟨0,0,none⟩=some (.int .i64 m))(h1:1<=sep.size)(hn:1<=n)(hn63:n<=9223372036854775807):
  Calls prog 99 #[.string s,.string sep,.int .i64 n] w fun e w'=>
   e= .returned (.slice (some ⟨w.heap.size,0,none⟩) (Lib.splitB sep 0 (min n (s.size+1)-1) s).length (min n (s.size+1)))/\w'=w.alloc (.cells (Lib.cellsOf (Lib.splitB sep 0 (min n (s.size+1)-1) s) (min n (s.size+1))) 9):=Any.strings_SplitN lays147 ot s sep n m w hs hm h1 hn hn63
def Tryz.sortE_ren:Go.Shelf.Ren:=⟨fun|6=>94|15=>122|14=>121|28=>162|29=>163|20=>154|21=>155|22=>156|23=>157|24=>158|25=>159|26=>160|27=>161|46=>204|47=>205|48=>206|49=>207|50=>208|57=>238|n=>n,fun|22=>40|24=>43|25=>158|3=>3|39=>189|0=>0|53=>30|55=>211|4=>4|46=>221|45=>220|50=>116|5=>5|9=>9|66=>261|70=>265|76=>292|77=>293|n=>n,fun|n=>n⟩
theorem Tryz.sortE:Go.Proofs.SlLaysF0.n6 prog Tryz.sortE_ren:={
 mixed:=ot
 f6:=⟨Tryz.f94.name,by decide,func94.trans oq⟩
 f14:=⟨Tryz.f121.name,by decide,func121.trans oq⟩
 f15:=func122.trans oq
 f20:=⟨Tryz.f154.name,by decide,func154.trans oq⟩
 f21:=⟨Tryz.f155.name,by decide,func155.trans oq⟩
 f22:=⟨Tryz.f156.name,by decide,func156.trans oq⟩
 f23:=⟨Tryz.f157.name,by decide,func157.trans oq⟩
 f24:=⟨Tryz.f158.name,by decide,func158.trans oq⟩
 f25:=⟨Tryz.f159.name,by decide,func159.trans oq⟩
 f26:=⟨Tryz.f160.name,by decide,func160.trans oq⟩
 f27:=⟨Tryz.f161.name,by decide,func161.trans oq⟩
 f28:=func162.trans oq
 f29:=func163.trans oq
 f46:=⟨Tryz.f204.name,by decide,func204.trans oq⟩
 f47:=func205.trans oq
 f48:=func206.trans oq
 f49:=⟨Tryz.f207.name,by decide,func207.trans oq⟩
 f50:=⟨Tryz.f208.name,by decide,func208.trans oq⟩
 f57:=⟨Tryz.f238.name,by decide,func238.trans oq⟩
 t0:=underlying0
 a0:=isAgg0
 z0:=sizeOf0
 v0:=zeroValue0
 t3:=underlying3
 a3:=isAgg3
 z3:=sizeOf3
 v3:=zeroValue3
 t4:=underlying4
 a4:=isAgg4
 z4:=sizeOf4
 v4:=zeroValue4
 t5:=underlying5
 a5:=isAgg5
 z5:=sizeOf5
 v5:=zeroValue5
 t9:=underlying9
 a9:=isAgg9
 z9:=sizeOf9
 v9:=zeroValue9
 t22:=underlying40
 a22:=isAgg40
 z22:=sizeOf40
 v22:=zeroValue40
 t25:=underlying158
 a25:=isAgg158
 z25:=sizeOf158
 v25:=zeroValue158
 t39:=underlying189
 a39:=isAgg189
 z39:=sizeOf189
 v39:=zeroValue189
 t45:=underlying220
 a45:=isAgg220
 z45:=sizeOf220
 v45:=zeroValue220
 t46:=underlying221
 a46:=isAgg221
 z46:=sizeOf221
 v46:=zeroValue221
 t50:=underlying116
 a50:=isAgg116
 z50:=sizeOf116
 v50:=zeroValue116
 t53:=underlying30
 a53:=isAgg30
 z53:=sizeOf30
 v53:=zeroValue30
 t55:=underlying211
 a55:=isAgg211
 z55:=sizeOf211
 v55:=zeroValue211
 t66:=underlying261
 a66:=isAgg261
 z66:=sizeOf261
 v66:=zeroValue261
 t70:=underlying265
 a70:=isAgg265
 z70:=sizeOf265
 v70:=zeroValue265
 t76:=underlying292
 a76:=isAgg292
 z76:=sizeOf292
 v76:=zeroValue292
 t77:=underlying293
 a77:=isAgg293
 z77:=sizeOf293
 v77:=zeroValue293}
def Tryz.equalE_ren:Go.Shelf.Ren:=⟨fun|8=>96|n=>n,fun|22=>40|24=>43|4=>4|3=>3|0=>0|n=>n,fun|n=>n⟩
theorem Tryz.equalE:Go.Proofs.SlLaysQ.n8 prog Tryz.equalE_ren:={
 mixed:=ot
 f8:=⟨Tryz.f96.name,by decide,func96.trans oq⟩
 t0:=underlying0
 a0:=isAgg0
 z0:=sizeOf0
 v0:=zeroValue0
 t3:=underlying3
 a3:=isAgg3
 z3:=sizeOf3
 v3:=zeroValue3
 t4:=underlying4
 a4:=isAgg4
 z4:=sizeOf4
 v4:=zeroValue4
 t22:=underlying40
 a22:=isAgg40
 z22:=sizeOf40
 v22:=zeroValue40}
def Tryz.cloneE_ren:Go.Shelf.Ren:=⟨fun|41=>97|n=>n,fun|22=>40|23=>43|4=>4|n=>n,fun|n=>n⟩
theorem Tryz.cloneE:Go.Proofs.SlLaysE0.n41 prog Tryz.cloneE_ren:={
 mixed:=ot
 f41:=⟨Tryz.f97.name,by decide,func97.trans oq⟩
 t4:=underlying4
 a4:=isAgg4
 z4:=sizeOf4
 v4:=zeroValue4
 t22:=underlying40
 a22:=isAgg40
 z22:=sizeOf40
 v22:=zeroValue40}
end Go.Proofs
namespace Go.Proofs.YtdfkaijeppdhaaaGreatDoor
open Lib (hid)
open Proofs.Tryz Go Go.RowKit
theorem adm(s:ByteArray)(i:Nat)(h:(s.get! i).toNat<128):Utf8.decode s i=((s.get! i).toNat,1):=by
 rw[Lib.decode_at,Lib.decodeN];simp[h]
theorem ags(s:ByteArray)(i:Nat)(h:128<=(s.get! i).toNat):128<=(Utf8.decode s i).1:=by
 rw[Lib.decode_at];rcases Lib.decodeN_shape (s.size-i) (s.get! i).toNat (s.get! (i+1)).toNat (s.get! (i+2)).toNat (s.get! (i+3)).toNat with h'|h'|h'|h'|h'
 ·omega
 ·rw[h'.2.2.2.2];exact h'.2.2.2.1
 ·rw[h'.2.2.2.2.2.2];have:=h'.2.2.2.2.1;simp only;omega
 ·rw[h'.2.2.2.2.2.2.2];have:=h'.2.2.2.2.2.1;simp only;omega
 rw[h'];decide
theorem akB(s:ByteArray)(i:Nat)(h:i<s.size):s.data.toList.drop i=s.get! i::s.data.toList.drop (i+1):=by
 have hl:i<s.data.toList.length:=by simpa using h
 rw[aoL hl];congr 1;have h':i<s.data.size:=by simpa using h
 show s.data.toList[i]=s.data[i]!;rw[getElem!_pos s.data i h'];simp
theorem afN(p:Nat->Bool)(hp:∀r,128<=r->p r=true)(s:ByteArray):∀(f pos:Nat),s.size<=pos+f->
  decide (0<=Lib.idxFuncFrom p true s f pos)=(s.data.toList.drop pos).any (fun c=>p c.toNat)
 |0,pos,h=>by
  have:s.data.toList.drop pos=[]:=apy (by simpa using h);rw[this];rfl
 | f+1,pos,h=>by
  unfold Lib.idxFuncFrom;by_cases hs:pos<s.size
  ·rw[if_pos hs,akB s pos hs,List.any_cons];by_cases hb:(s.get! pos).toNat<128
   ·rw[adm s pos hb];cases hq:p (s.get! pos).toNat with
    |true=>simp
    |false=>simp only[Bool.false_eq_true,if_false,Bool.false_or];exact afN p hp s f (pos+1) om
   rw[hp _ (ags s pos om),hp (s.get! pos).toNat om];simp
  have:s.data.toList.drop pos=[]:=apy (by simpa using hs);rw[if_neg hs,this];rfl
theorem ac1(p:Nat->Bool)(hp:∀r,128<=r->p r=true)(s:ByteArray):
  decide (0<=Lib.idxFunc p true s)=s.data.toList.any (fun c=>p c.toNat):=by
 have:=afN p hp s s.size 0 om;rw[List.drop_zero]at this;exact this
end Go.Proofs.YtdfkaijeppdhaaaGreatDoor
namespace Go.Proofs.YtdfkaijeppdhaaaGreatDoor
open Lib (hid)
open Proofs.Tryz Go.RowKit Go.Shelf
theorem aeX(r:Nat)(h:128<=r):a1w r=true:=by unfold a1w;simp;omega
theorem aeY(r:Nat)(h:128<=r):a1o r=true:=by unfold a1o;simp;omega
theorem agt(w:World):PredAt prog 115 #[] encR a1w w:=fun W r _=>by
 unfold FnGives a1w;by_cases h1:(r:Int)<32
 ·go_enter func115,ntmps115;go_wp2;go_ret;exact⟨by simp[h1],0,rfl⟩
 by_cases h2:126<(r:Int)
 ·go_enter func115,ntmps115;go_wp2;go_ret;exact⟨by first|rfl|(simp[h1,h2];done)|(simp;omega),0,rfl⟩
 go_enter func115,ntmps115;go_wp2;go_ret;exact⟨by first|rfl|(simp[h1,h2];done)|(simp;omega),0,rfl⟩
theorem agu(w:World):PredAt prog 114 #[] encR a1o w:=fun W r _=>by
 unfold FnGives a1o;by_cases h1:(r:Int)<97
 ·go_enter func114,ntmps114;go_wp2;go_ret;exact⟨by simp[h1],0,rfl⟩
 by_cases h2:122<(r:Int)
 ·go_enter func114,ntmps114;go_wp2;go_ret;exact⟨by first|rfl|(simp[h1,h2];done)|(simp;omega),0,rfl⟩
 go_enter func114,ntmps114;go_wp2;go_ret;exact⟨by first|rfl|(simp[h1,h2];done)|(simp;omega),0,rfl⟩
theorem a3H(s:ByteArray)(w:World):Calls prog 87 #[.string s] w fun e w'=>e= .returned (.bool (a0n s))/\Below w.heap.size w w':=by
 have hA:=hid (ac1 a1w aeX s);have hC:=Tryz.strings_ContainsFunc 115 #[] (enters_of func115 ot rfl) a1w s w (agt w);unfold a0n;by_cases h1:s.size<=60
 ·go_enter func87,ntmps87;go_wp2_with fail
  refine hC.mono ?_;rintro e w' ⟨rfl,hb⟩;rw[hA.out];go_wp2;go_ret;exact⟨by simp[h1],hb⟩
 go_enter func87,ntmps87;go_wp2;go_ret;exact⟨by simp,aoi _ _⟩
theorem a3I(s:ByteArray)(w:World):Calls prog 86 #[.string s] w fun e w'=>e= .returned (.bool (a03 s))/\Below w.heap.size w w':=by
 have hA:=hid (ac1 a1o aeY s);have hC:=Tryz.strings_ContainsFunc 114 #[] (enters_of func114 ot rfl) a1o s w (agu w);unfold a03;by_cases h1:betw 1 s.size 8=true
 ·have H1:=hid h1;clear h1;go_enter func86,ntmps86;go_wp2_with fail
  refine(between_any _ _ _ _).mono ?_
  rintro e w' ⟨rfl,rfl⟩;rw[H1.out];go_wp2_with fail
  refine hC.mono ?_;rintro e w' ⟨rfl,hb⟩;rw[hA.out];generalize hq:(s.data.toList.any fun c=>a1o c.toNat)=q;have HQ:=hid hq;clear hq;go_wp2;go_ret;exact⟨by rw[H1.out,HQ.out];first|rfl|simp,hb⟩
 have H1:=hid (Bool.eq_false_iff.2 h1);clear h1;go_enter func86,ntmps86;go_wp2_with fail
 refine(between_any _ _ _ _).mono ?_
 rintro e w' ⟨rfl,rfl⟩;rw[H1.out];go_wp2;go_ret;exact⟨by rw[H1.out];first|rfl|simp,aoi _ _⟩
end Go.Proofs.YtdfkaijeppdhaaaGreatDoor
