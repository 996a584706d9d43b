/- Contracts of library functions, out of the shelf, at this program. No condition. -/
import Derived.Test.YthfcimmcccocmaaGreatDoorW4
import Derived.Shelf.Strings.OnBuilder
import Derived.Shelf.Strings.Search3
import Derived.Shelf.Strconv.Itoa3
import Derived.Shelf.Strconv.AtoiAll
import Derived.Test.YthfcimmcccocmaaGreatDoorProg
import Derived.KernelRfl
namespace Go.Proofs.YthfcimmcccocmaaGreatDoor
open Go.Shelf
def Zdj:Go.Shelf.Ren:=⟨fun |156=>63 |165=>96 |166=>97 |169=>98 |240=>108 |241=>109 |276=>124 |277=>125 |n=>n,fun |31=>125 |9=>9 |3=>3 |4=>4 |0=>0 |20=>20 |72=>164 |76=>134 |70=>161 |37=>162 |75=>133 |127=>172 |164=>191 |5=>5 |80=>166 |n=>n,fun |n=>n⟩
theorem Zhf:Go.Proofs.Lays.n156 Tryz.prog Zdj:={
 mixed:=by kernel_rfl
 f156:=Tryz.func63.trans (congrArg some (by kernel_rfl))
 f165:=Tryz.func96.trans (congrArg some (by kernel_rfl))
 f166:=Tryz.func97.trans (congrArg some (by kernel_rfl))
 f169:=Tryz.func98.trans (congrArg some (by kernel_rfl))
 f240:=Tryz.func108.trans (congrArg some (by kernel_rfl))
 f241:=Tryz.func109.trans (congrArg some (by kernel_rfl))
 f276:=Tryz.func124.trans (congrArg some (by kernel_rfl))
 f277:=Tryz.func125.trans (congrArg some (by kernel_rfl))
 t0:=Tryz.underlying0
 a0:=Tryz.isAgg0
 z0:=Tryz.sizeOf0
 v0:=Tryz.zeroValue0
 t3:=Tryz.underlying3
 a3:=Tryz.isAgg3
 z3:=Tryz.sizeOf3
 v3:=Tryz.zeroValue3
 t4:=Tryz.underlying4
 a4:=Tryz.isAgg4
 z4:=Tryz.sizeOf4
 v4:=Tryz.zeroValue4
 t9:=Tryz.underlying9
 a9:=Tryz.isAgg9
 z9:=Tryz.sizeOf9
 v9:=Tryz.zeroValue9
 t20:=Tryz.underlying20
 a20:=Tryz.isAgg20
 z20:=Tryz.sizeOf20
 v20:=Tryz.zeroValue20
 t31:=Tryz.underlying125
 a31:=Tryz.isAgg125
 z31:=Tryz.sizeOf125
 v31:=Tryz.zeroValue125
 t37:=Tryz.underlying162
 a37:=Tryz.isAgg162
 z37:=Tryz.sizeOf162
 v37:=Tryz.zeroValue162
 t70:=Tryz.underlying161
 a70:=Tryz.isAgg161
 z70:=Tryz.sizeOf161
 v70:=Tryz.zeroValue161
 t72:=Tryz.underlying164
 a72:=Tryz.isAgg164
 z72:=Tryz.sizeOf164
 v72:=Tryz.zeroValue164
 t75:=Tryz.underlying133
 a75:=Tryz.isAgg133
 z75:=Tryz.sizeOf133
 v75:=Tryz.zeroValue133
 t76:=Tryz.underlying134
 a76:=Tryz.isAgg134
 z76:=Tryz.sizeOf134
 v76:=Tryz.zeroValue134
 t127:=Tryz.underlying172
 a127:=Tryz.isAgg172
 z127:=Tryz.sizeOf172
 v127:=Tryz.zeroValue172
 t164:=Tryz.underlying191
 a164:=Tryz.isAgg191
 z164:=Tryz.sizeOf191
 v164:=Tryz.zeroValue191 }
theorem Zbo:Builder.Extra Tryz.prog Zdj:={
 sizeBuilder:=by kernel_rfl
 liesBuilder:=by kernel_rfl
 t5:=Tryz.underlying5
 a5:=Tryz.isAgg5
 z5:=Tryz.sizeOf5
 v5:=Tryz.zeroValue5
 infoByte:=by kernel_rfl
 cellsByte:=by kernel_rfl
 sizeByte:=by kernel_rfl
 neB5:=by decide }
open Go.RowKit in
theorem Zdc(a:Option Addr)(c:Nat)(sep:ByteArray)(w:World):
 Calls Tryz.prog 63 #[.slice a 0 c, .string sep] w fun e w'=>e=.returned (.string ⟨#[]⟩)∧w'=w:=Any.strings_Join_none Zhf Zbo a c sep w
open Go.RowKit in
theorem ZfK(bk o c:Nat)(xs:List ByteArray)(sep:ByteArray)(w:World)(hcells:∀(j:Nat) x,xs[j]? =some x→w.cell? ⟨bk,o+j,none⟩=some (.string x))(hbk:bk<w.heap.size)(hN:xs.length≤140737488355328)(hcap:xs.length≤c)(hlen:(Lib.join (xs.map (·.data.toList)) sep.data.toList).length≤140737488355328):
 Calls Tryz.prog 63 #[.slice (some ⟨bk,o,none⟩) xs.length c, .string sep] w fun e w'=>e=.returned (.string ⟨(Lib.join (xs.map (·.data.toList)) sep.data.toList).toArray⟩)∧Below w.heap.size w w':=Any.strings_Join Zhf Zbo bk o c xs sep w hcells hbk hN hcap hlen
def Zgg:Go.Shelf.Ren:=⟨fun |171=>62 |243=>95 |246=>107 |283=>120 |284=>121 |285=>122 |286=>123 |129=>133 |317=>132 |318=>134 |319=>135 |320=>136 |337=>144 |338=>145 |n=>n,fun |3=>3 |9=>9 |2=>2 |4=>4 |171=>185 |0=>0 |53=>186 |37=>162 |5=>5 |173=>189 |212=>201 |51=>202 |20=>20 |213=>203 |46=>144 |232=>217 |233=>218 |n=>n,fun |17=>2 |18=>6 |19=>7 |n=>n⟩
theorem Zjz:Go.Proofs.LaysM.n171 Tryz.prog Zgg:={
 mixed:=by kernel_rfl
 f129:=Tryz.func133.trans (congrArg some (by kernel_rfl))
 f171:=Tryz.func62.trans (congrArg some (by kernel_rfl))
 f243:=Tryz.func95.trans (congrArg some (by kernel_rfl))
 f246:=Tryz.func107.trans (congrArg some (by kernel_rfl))
 f283:=Tryz.func120.trans (congrArg some (by kernel_rfl))
 f284:=Tryz.func121.trans (congrArg some (by kernel_rfl))
 f285:=Tryz.func122.trans (congrArg some (by kernel_rfl))
 f286:=Tryz.func123.trans (congrArg some (by kernel_rfl))
 f317:=Tryz.func132.trans (congrArg some (by kernel_rfl))
 f318:=Tryz.func134.trans (congrArg some (by kernel_rfl))
 f319:=Tryz.func135.trans (congrArg some (by kernel_rfl))
 f320:=Tryz.func136.trans (congrArg some (by kernel_rfl))
 f337:=Tryz.func144.trans (congrArg some (by kernel_rfl))
 f338:=Tryz.func145.trans (congrArg some (by kernel_rfl))
 t0:=Tryz.underlying0
 a0:=Tryz.isAgg0
 z0:=Tryz.sizeOf0
 v0:=Tryz.zeroValue0
 t2:=Tryz.underlying2
 a2:=Tryz.isAgg2
 z2:=Tryz.sizeOf2
 v2:=Tryz.zeroValue2
 t3:=Tryz.underlying3
 a3:=Tryz.isAgg3
 z3:=Tryz.sizeOf3
 v3:=Tryz.zeroValue3
 t4:=Tryz.underlying4
 a4:=Tryz.isAgg4
 z4:=Tryz.sizeOf4
 v4:=Tryz.zeroValue4
 t5:=Tryz.underlying5
 a5:=Tryz.isAgg5
 z5:=Tryz.sizeOf5
 v5:=Tryz.zeroValue5
 t9:=Tryz.underlying9
 a9:=Tryz.isAgg9
 z9:=Tryz.sizeOf9
 v9:=Tryz.zeroValue9
 t20:=Tryz.underlying20
 a20:=Tryz.isAgg20
 z20:=Tryz.sizeOf20
 v20:=Tryz.zeroValue20
 t37:=Tryz.underlying162
 a37:=Tryz.isAgg162
 z37:=Tryz.sizeOf162
 v37:=Tryz.zeroValue162
 t46:=Tryz.underlying144
 a46:=Tryz.isAgg144
 z46:=Tryz.sizeOf144
 v46:=Tryz.zeroValue144
 t51:=Tryz.underlying202
 a51:=Tryz.isAgg202
 z51:=Tryz.sizeOf202
 v51:=Tryz.zeroValue202
 t53:=Tryz.underlying186
 a53:=Tryz.isAgg186
 z53:=Tryz.sizeOf186
 v53:=Tryz.zeroValue186
 t171:=Tryz.underlying185
 a171:=Tryz.isAgg185
 z171:=Tryz.sizeOf185
 v171:=Tryz.zeroValue185
 t173:=Tryz.underlying189
 a173:=Tryz.isAgg189
 z173:=Tryz.sizeOf189
 v173:=Tryz.zeroValue189
 t212:=Tryz.underlying201
 a212:=Tryz.isAgg201
 z212:=Tryz.sizeOf201
 v212:=Tryz.zeroValue201
 t213:=Tryz.underlying203
 a213:=Tryz.isAgg203
 z213:=Tryz.sizeOf203
 t232:=Tryz.underlying217
 a232:=Tryz.isAgg217
 z232:=Tryz.sizeOf217
 v232:=Tryz.zeroValue217
 t233:=Tryz.underlying218
 a233:=Tryz.isAgg218
 z233:=Tryz.sizeOf218
 v233:=Tryz.zeroValue218
 g17:=by kernel_rfl
 g18:=by kernel_rfl
 g19:=by kernel_rfl
 i0:=by kernel_rfl
 i2:=by kernel_rfl
 i3:=by kernel_rfl
 i4:=by kernel_rfl
 i5:=by kernel_rfl
 i9:=by kernel_rfl
 i20:=by kernel_rfl
 i37:=by kernel_rfl
 i46:=by kernel_rfl
 i51:=by kernel_rfl
 i53:=by kernel_rfl
 i171:=by kernel_rfl
 i173:=by kernel_rfl
 i212:=by kernel_rfl
 i232:=by kernel_rfl
 i233:=by kernel_rfl
 m17:=by kernel_rfl
 m18:=by kernel_rfl
 m19:=by kernel_rfl }
def Zgn:Go.Shelf.Ren:=⟨fun |172=>65 |244=>100 |245=>101 |247=>113 |279=>114 |280=>115 |281=>116 |282=>117 |287=>128 |316=>129 |171=>62 |205=>130 |321=>141 |322=>142 |243=>95 |246=>107 |283=>120 |284=>121 |285=>122 |286=>123 |129=>133 |317=>132 |318=>134 |319=>135 |320=>136 |337=>144 |338=>145 |n=>n,fun |9=>9 |3=>3 |75=>133 |76=>134 |4=>4 |5=>5 |167=>177 |37=>162 |0=>0 |85=>178 |2=>2 |168=>180 |53=>186 |175=>194 |46=>144 |210=>198 |127=>172 |145=>213 |143=>211 |21=>21 |171=>185 |173=>189 |212=>201 |51=>202 |20=>20 |213=>203 |232=>217 |233=>218 |80=>166 |n=>n,fun |15=>0 |16=>1 |17=>2 |18=>6 |19=>7 |n=>n⟩
theorem Zdm:Go.Proofs.LaysC.n172 Tryz.prog Zgn:={
 mixed:=by kernel_rfl
 f129:=Tryz.func133.trans (congrArg some (by kernel_rfl))
 f171:=Tryz.func62.trans (congrArg some (by kernel_rfl))
 f172:=Tryz.func65.trans (congrArg some (by kernel_rfl))
 f205:=Tryz.func130.trans (congrArg some (by kernel_rfl))
 f243:=Tryz.func95.trans (congrArg some (by kernel_rfl))
 f244:=Tryz.func100.trans (congrArg some (by kernel_rfl))
 f245:=Tryz.func101.trans (congrArg some (by kernel_rfl))
 f246:=Tryz.func107.trans (congrArg some (by kernel_rfl))
 f247:=Tryz.func113.trans (congrArg some (by kernel_rfl))
 f279:=Tryz.func114.trans (congrArg some (by kernel_rfl))
 f280:=Tryz.func115.trans (congrArg some (by kernel_rfl))
 f281:=Tryz.func116.trans (congrArg some (by kernel_rfl))
 f282:=Tryz.func117.trans (congrArg some (by kernel_rfl))
 f283:=Tryz.func120.trans (congrArg some (by kernel_rfl))
 f284:=Tryz.func121.trans (congrArg some (by kernel_rfl))
 f285:=Tryz.func122.trans (congrArg some (by kernel_rfl))
 f286:=Tryz.func123.trans (congrArg some (by kernel_rfl))
 f287:=Tryz.func128.trans (congrArg some (by kernel_rfl))
 f316:=Tryz.func129.trans (congrArg some (by kernel_rfl))
 f317:=Tryz.func132.trans (congrArg some (by kernel_rfl))
 f318:=Tryz.func134.trans (congrArg some (by kernel_rfl))
 f319:=Tryz.func135.trans (congrArg some (by kernel_rfl))
 f320:=Tryz.func136.trans (congrArg some (by kernel_rfl))
 f321:=Tryz.func141.trans (congrArg some (by kernel_rfl))
 f322:=Tryz.func142.trans (congrArg some (by kernel_rfl))
 f337:=Tryz.func144.trans (congrArg some (by kernel_rfl))
 f338:=Tryz.func145.trans (congrArg some (by kernel_rfl))
 t0:=Tryz.underlying0
 a0:=Tryz.isAgg0
 z0:=Tryz.sizeOf0
 v0:=Tryz.zeroValue0
 t2:=Tryz.underlying2
 a2:=Tryz.isAgg2
 z2:=Tryz.sizeOf2
 v2:=Tryz.zeroValue2
 t3:=Tryz.underlying3
 a3:=Tryz.isAgg3
 z3:=Tryz.sizeOf3
 v3:=Tryz.zeroValue3
 t4:=Tryz.underlying4
 a4:=Tryz.isAgg4
 z4:=Tryz.sizeOf4
 v4:=Tryz.zeroValue4
 t5:=Tryz.underlying5
 a5:=Tryz.isAgg5
 z5:=Tryz.sizeOf5
 v5:=Tryz.zeroValue5
 t9:=Tryz.underlying9
 a9:=Tryz.isAgg9
 z9:=Tryz.sizeOf9
 v9:=Tryz.zeroValue9
 t20:=Tryz.underlying20
 a20:=Tryz.isAgg20
 z20:=Tryz.sizeOf20
 v20:=Tryz.zeroValue20
 t21:=Tryz.underlying21
 a21:=Tryz.isAgg21
 z21:=Tryz.sizeOf21
 v21:=Tryz.zeroValue21
 t37:=Tryz.underlying162
 a37:=Tryz.isAgg162
 z37:=Tryz.sizeOf162
 v37:=Tryz.zeroValue162
 t46:=Tryz.underlying144
 a46:=Tryz.isAgg144
 z46:=Tryz.sizeOf144
 v46:=Tryz.zeroValue144
 t51:=Tryz.underlying202
 a51:=Tryz.isAgg202
 z51:=Tryz.sizeOf202
 v51:=Tryz.zeroValue202
 t53:=Tryz.underlying186
 a53:=Tryz.isAgg186
 z53:=Tryz.sizeOf186
 v53:=Tryz.zeroValue186
 t75:=Tryz.underlying133
 a75:=Tryz.isAgg133
 z75:=Tryz.sizeOf133
 v75:=Tryz.zeroValue133
 t76:=Tryz.underlying134
 a76:=Tryz.isAgg134
 z76:=Tryz.sizeOf134
 v76:=Tryz.zeroValue134
 t85:=Tryz.underlying178
 a85:=Tryz.isAgg178
 z85:=Tryz.sizeOf178
 v85:=Tryz.zeroValue178
 t127:=Tryz.underlying172
 a127:=Tryz.isAgg172
 z127:=Tryz.sizeOf172
 v127:=Tryz.zeroValue172
 t143:=Tryz.underlying211
 a143:=Tryz.isAgg211
 z143:=Tryz.sizeOf211
 v143:=Tryz.zeroValue211
 t145:=Tryz.underlying213
 a145:=Tryz.isAgg213
 z145:=Tryz.sizeOf213
 v145:=Tryz.zeroValue213
 t167:=Tryz.underlying177
 a167:=Tryz.isAgg177
 z167:=Tryz.sizeOf177
 v167:=Tryz.zeroValue177
 t168:=Tryz.underlying180
 a168:=Tryz.isAgg180
 z168:=Tryz.sizeOf180
 v168:=Tryz.zeroValue180
 t171:=Tryz.underlying185
 a171:=Tryz.isAgg185
 z171:=Tryz.sizeOf185
 v171:=Tryz.zeroValue185
 t173:=Tryz.underlying189
 a173:=Tryz.isAgg189
 z173:=Tryz.sizeOf189
 v173:=Tryz.zeroValue189
 t175:=Tryz.underlying194
 a175:=Tryz.isAgg194
 z175:=Tryz.sizeOf194
 v175:=Tryz.zeroValue194
 t210:=Tryz.underlying198
 a210:=Tryz.isAgg198
 z210:=Tryz.sizeOf198
 v210:=Tryz.zeroValue198
 t212:=Tryz.underlying201
 a212:=Tryz.isAgg201
 z212:=Tryz.sizeOf201
 v212:=Tryz.zeroValue201
 t213:=Tryz.underlying203
 a213:=Tryz.isAgg203
 z213:=Tryz.sizeOf203
 t232:=Tryz.underlying217
 a232:=Tryz.isAgg217
 z232:=Tryz.sizeOf217
 v232:=Tryz.zeroValue217
 t233:=Tryz.underlying218
 a233:=Tryz.isAgg218
 z233:=Tryz.sizeOf218
 v233:=Tryz.zeroValue218
 g15:=by kernel_rfl
 g16:=by kernel_rfl
 g17:=by kernel_rfl
 g18:=by kernel_rfl
 g19:=by kernel_rfl
 t80:=Tryz.underlying166
 a80:=Tryz.isAgg166
 z80:=Tryz.sizeOf166
 v80:=Tryz.zeroValue166
 i0:=by kernel_rfl
 i2:=by kernel_rfl
 i3:=by kernel_rfl
 i4:=by kernel_rfl
 i5:=by kernel_rfl
 i9:=by kernel_rfl
 i20:=by kernel_rfl
 i21:=by kernel_rfl
 i37:=by kernel_rfl
 i46:=by kernel_rfl
 i51:=by kernel_rfl
 i53:=by kernel_rfl
 i75:=by kernel_rfl
 i76:=by kernel_rfl
 i80:=by kernel_rfl
 i85:=by kernel_rfl
 i127:=by kernel_rfl
 i143:=by kernel_rfl
 i145:=by kernel_rfl
 i167:=by kernel_rfl
 i168:=by kernel_rfl
 i171:=by kernel_rfl
 i173:=by kernel_rfl
 i175:=by kernel_rfl
 i210:=by kernel_rfl
 i212:=by kernel_rfl
 i232:=by kernel_rfl
 i233:=by kernel_rfl
 m15:=by kernel_rfl
 m16:=by kernel_rfl
 m17:=by kernel_rfl
 m18:=by kernel_rfl
 m19:=by kernel_rfl
 c0:=by kernel_rfl
 c2:=by kernel_rfl
 c3:=by kernel_rfl
 c4:=by kernel_rfl
 c5:=by kernel_rfl
 c9:=by kernel_rfl
 c20:=by kernel_rfl
 c21:=by kernel_rfl
 c37:=by kernel_rfl
 c46:=by kernel_rfl
 c51:=by kernel_rfl
 c53:=by kernel_rfl
 c75:=by kernel_rfl
 c76:=by kernel_rfl
 c80:=by kernel_rfl
 c85:=by kernel_rfl
 c127:=by kernel_rfl
 c143:=by kernel_rfl
 c145:=by kernel_rfl
 c167:=by kernel_rfl
 c168:=by kernel_rfl
 c171:=by kernel_rfl
 c173:=by kernel_rfl
 c175:=by kernel_rfl
 c210:=by kernel_rfl
 c212:=by kernel_rfl
 c213:=by kernel_rfl
 c232:=by kernel_rfl
 c233:=by kernel_rfl }
open Go.RowKit in
theorem ZdT(s:ByteArray)(hmax:s.size≤9223372036854775806)(v:Int)(h:Lib.atoiAll s.data.toList=.ok v)(w:World):
 Calls Tryz.prog 65 #[.string s] w fun e w'=>e=.returned (.tuple #[.int .i64 v, .nilIface])∧(w'=w∨∃t,w'=Lib.bytesWorld w 5 t):=Any.strconv_Atoi_ok Zdm s hmax v h w
open Go.RowKit in
theorem Zcj(s:ByteArray)(hlim:s.size≤281474976710656)(h:Lib.atoiAll s.data.toList=Lib.NumEnd.syntax)(ev:Value)(w:World)(hv:w.cell? ⟨0,0,none⟩=some ev)(hev:ev=.nilIface∨∃te pe,ev=.iface te pe):
 Calls Tryz.prog 65 #[.string s] w fun e w'=>∃N,e=.returned (.tuple #[.int .i64 (0), .iface 180 (.pointer (some ⟨N,0,none⟩))])∧w.heap.size≤N∧w'.heap[N]? =some (.cells #[.string ⟨#[65,116,111,105]⟩, .string s,ev] 198 (0,0))∧Below w.heap.size w w':=Any.strconv_Atoi_syntax Zdm s hlim h ev w hv hev
open Go.RowKit in
theorem Zcn(s:ByteArray)(hlim:s.size≤281474976710656)(h:Lib.atoiAll s.data.toList=.range)(ev:Value)(w:World)(hv:w.cell? ⟨1,0,none⟩=some ev)(hev:ev=.nilIface∨∃te pe,ev=.iface te pe):
 Calls Tryz.prog 65 #[.string s] w fun e w'=>∃N,e=.returned (.tuple #[.int .i64 (Lib.atoiSat s.data.toList), .iface 180 (.pointer (some ⟨N,0,none⟩))])∧w.heap.size≤N∧w'.heap[N]? =some (.cells #[.string ⟨#[65,116,111,105]⟩, .string s,ev] 198 (0,0))∧Below w.heap.size w w':=Any.strconv_Atoi_range Zdm s hlim h ev w hv hev
def ZgH:Go.Shelf.Ren:=⟨fun |143=>112 |219=>127 |217=>137 |225=>138 |224=>139 |267=>140 |266=>146 |314=>147 |n=>n,fun |9=>9 |3=>3 |4=>4 |5=>5 |46=>144 |146=>215 |51=>202 |n=>n,fun |1=>3 |n=>n⟩
theorem ZlQ:Go.Proofs.Lays.n143 Tryz.prog ZgH:={
 mixed:=by kernel_rfl
 f143:=Tryz.func112.trans (congrArg some (by kernel_rfl))
 f217:=Tryz.func137.trans (congrArg some (by kernel_rfl))
 f219:=Tryz.func127.trans (congrArg some (by kernel_rfl))
 f224:=Tryz.func139.trans (congrArg some (by kernel_rfl))
 f225:=Tryz.func138.trans (congrArg some (by kernel_rfl))
 f266:=Tryz.func146.trans (congrArg some (by kernel_rfl))
 f267:=Tryz.func140.trans (congrArg some (by kernel_rfl))
 f314:=Tryz.func147.trans (congrArg some (by kernel_rfl))
 t3:=Tryz.underlying3
 a3:=Tryz.isAgg3
 z3:=Tryz.sizeOf3
 v3:=Tryz.zeroValue3
 t4:=Tryz.underlying4
 a4:=Tryz.isAgg4
 z4:=Tryz.sizeOf4
 v4:=Tryz.zeroValue4
 t5:=Tryz.underlying5
 a5:=Tryz.isAgg5
 z5:=Tryz.sizeOf5
 v5:=Tryz.zeroValue5
 t9:=Tryz.underlying9
 a9:=Tryz.isAgg9
 z9:=Tryz.sizeOf9
 v9:=Tryz.zeroValue9
 t46:=Tryz.underlying144
 a46:=Tryz.isAgg144
 z46:=Tryz.sizeOf144
 v46:=Tryz.zeroValue144
 t51:=Tryz.underlying202
 a51:=Tryz.isAgg202
 z51:=Tryz.sizeOf202
 v51:=Tryz.zeroValue202
 t146:=Tryz.underlying215
 a146:=Tryz.isAgg215
 z146:=Tryz.sizeOf215
 v146:=Tryz.zeroValue215
 g1:=by kernel_rfl }
open Go.RowKit Go.Lib in
theorem Zfa(s sub:ByteArray)(m:Int)(w:World)(hs:s.size<4294967281)(hm:w.cell? ⟨3,0,none⟩=some (.int .i64 m)):
 Calls Tryz.prog 112 #[.string s, .string sub] w fun e w'=>e=.returned (.int .i64 (Lib.index s.data.toList sub.data.toList))∧w'=w:=Any.strings_Index ZlQ s sub m w hs hm
end Go.Proofs.YthfcimmcccocmaaGreatDoor
/- Paths of functions, printed by the explorer (Gx). No condition. -/
namespace Go.Proofs.YthfcimmcccocmaaGreatDoor
set_option maxRecDepth 100000
set_option linter.unusedVariables false
def ZvR(xs:List Int):AFrame:={ fn:=49,N:=8,env:=[(0,AV.list (.ints .i64 xs))],todo:=[.code a49.code],defs:=[],rnd:=none,ret:=false,res:=[ARes.tmp 2] }
def ZBT(xs:List Int):List AFrame:=[(ZvR xs)]
theorem Ztd(xs:List Int):Zap tab 49 [AV.list (.ints .i64 xs)]=some (ZvR xs):=rfl
def Zxy(A:Ar)(K:KT)(F:FT)(xs:List Int):Prop:=rB [Nat.blt 0 (A.len xs)] (rB [Nat.ble (0+A.len xs) 4294967296,List.all [] fun x=>AV.bx x&&Nat.beq (Zag A x) 1] (F (AV.row 0 0) (some { e:=3,sz:=1,r:=.ints .i64 xs })))
theorem ZzH{A:Ar}{K:KT}{F:FT}{M:MT}{xs:List Int} :Zat A tab E0 49 K F M (.run 10 (.fy (.run 9 (.fn)))) (ZBT xs) []=Zxy A K F xs:=by kernel_rfl
def Zr2(cap:Nat):AFrame:={ fn:=49,N:=8,env:=[(0,AV.val (Go.Value.slice none 0 cap))],todo:=[.code a49.code],defs:=[],rnd:=none,ret:=false,res:=[ARes.tmp 2] }
def ZzB(cap:Nat):List AFrame:=[(Zr2 cap)]
theorem ZqP(cap:Nat):Zap tab 49 [AV.val (Go.Value.slice none 0 cap)]=some (Zr2 cap):=rfl
def ZrN(A:Ar)(K:KT)(F:FT)(cap:Nat):Prop:=F (AV.nils) (none)
theorem ZwY{A:Ar}{K:KT}{F:FT}{M:MT}{cap:Nat} :Zat A tab E0 49 K F M (.run 10 (.ty (.run 5 (.fn)))) (ZzB cap) []=ZrN A K F cap:=by kernel_rfl
def ZrV(ad:Go.Addr)(cap:Nat):AFrame:={ fn:=49,N:=8,env:=[(0,AV.val (Go.Value.slice (some ad) 0 cap))],todo:=[.code a49.code],defs:=[],rnd:=none,ret:=false,res:=[ARes.tmp 2] }
def ZzY(ad:Go.Addr)(cap:Nat):List AFrame:=[(ZrV ad cap)]
theorem ZpR(ad:Go.Addr)(cap:Nat):Zap tab 49 [AV.val (Go.Value.slice (some ad) 0 cap)]=some (ZrV ad cap):=rfl
def ZrY(A:Ar)(K:KT)(F:FT)(ad:Go.Addr)(cap:Nat):Prop:=rB [List.all [] fun x=>AV.bx x&&Nat.beq (Zag A x) 1] (F (AV.row 0 0) (some { e:=3,sz:=1,r:=Row.gen [] }))
theorem Zyc{A:Ar}{K:KT}{F:FT}{M:MT}{ad:Go.Addr}{cap:Nat} :Zat A tab E0 49 K F M (.run 10 (.fy (.run 9 (.fn)))) (ZzY ad cap) []=ZrY A K F ad cap:=by kernel_rfl
end Go.Proofs.YthfcimmcccocmaaGreatDoor
/- Contracts as a list. No condition. -/
namespace Go.Proofs.YthfcimmcccocmaaGreatDoor
theorem Zbu(xs:List Int)(h:xs.length≤1000000):Zae Tryz.prog 49 [.list (.ints .i64 xs)] (.row 0 0) (some ⟨3,1, .ints .i64 xs⟩):=by
 by_cases h0:xs=[]
 ·subst h0
  refine ZmT rfl fun ad cap=>?_
  cases ad with
  |none=>exact Zo3 (r0:=.nils) (start (ZqP cap) fun C hC=>tgo hC Zra ZwY (by simp[ZrN])) rfl rfl (by omega)
  |some ad=>exact Zrt (r:=.gen []) (start (ZpR ad cap) fun C hC=>tgo hC Zra Zyc (by simp[ZrY])) (by omega) rfl
 ·have:=List.length_pos_iff.2 h0
  exact start (Ztd xs) fun C hC=>tgo hC Zra ZzH (by simp[Zxy];omega)
def N0:List Ctr:=E0
theorem ZyQ:ZaK Tryz.prog N0:=Zra
end Go.Proofs.YthfcimmcccocmaaGreatDoor
