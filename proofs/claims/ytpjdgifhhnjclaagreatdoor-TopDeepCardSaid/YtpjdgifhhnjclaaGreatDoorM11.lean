/-
  Top: TopDeep: whatever the input, the law answers true (part 11)
-/
import Derived.Shelf.Strings.Builder1
import Derived.Shelf.Strings.Builder2
import Derived.Shelf.Strings.Trim
import Derived.Shelf.Small.Utf8
import Derived.Shelf.Small.Strs
import Derived.Shelf.Strings.Search1
import Derived.Shelf.Strings.Search2
import Derived.Shelf.Strings.Search3
import Derived.Shelf.Strings.Count
import Derived.Shelf.LaysM
import Derived.Shelf.Strings.Shaped
import Derived.Shelf.Strings.Prefix
import Derived.Shelf.Strings.Split
import Derived.Shelf.Strings.Replace
import Derived.Shelf.Unicode.Decode
import Derived.Shelf.Strings.Runes
import Derived.Shelf.Strings.AsciiSet
import Derived.Shelf.Unicode.DecodeSlow
import Derived.Shelf.Unicode.DecodeAny
import Derived.Lib.Bytealg
import Derived.Test.YtpjdgifhhnjclaaGreatDoorM09
import Derived.Test.YtpjdgifhhnjclaaGreatDoorM10
set_option linter.unusedVariables false
set_option linter.unusedSimpArgs false
set_option maxHeartbeats 4000000
set_option maxRecDepth 10000
namespace Go.Proofs
open Go.Shelf
def Tryz.lays161_ren:Go.Shelf.Ren:=⟨fun|161=>62|231=>111|227=>112|233=>113|235=>114|228=>155|197=>110|151=>156|260=>154|152=>179|137=>64|119=>209|224=>121|225=>120|217=>116|266=>157|n=>n,fun|9=>9|4=>4|3=>3|5=>5|117=>145|116=>144|0=>0|124=>148|105=>120|21=>21|119=>181|46=>156|139=>184|138=>183|n=>n,fun|3=>1|4=>2|n=>n⟩
theorem Tryz.lays161:Go.Proofs.Lays.n161 Tryz.prog Tryz.lays161_ren:={
 mixed:=by kernel_rfl
 f119:=Tryz.func209.trans (congrArg some (by kernel_rfl))
 f137:=Tryz.func64.trans (congrArg some (by kernel_rfl))
 f151:=Tryz.func156.trans (congrArg some (by kernel_rfl))
 f152:=Tryz.func179.trans (congrArg some (by kernel_rfl))
 f161:=Tryz.func62.trans (congrArg some (by kernel_rfl))
 f197:=Tryz.func110.trans (congrArg some (by kernel_rfl))
 f217:=Tryz.func116.trans (congrArg some (by kernel_rfl))
 f224:=Tryz.func121.trans (congrArg some (by kernel_rfl))
 f225:=Tryz.func120.trans (congrArg some (by kernel_rfl))
 f227:=Tryz.func112.trans (congrArg some (by kernel_rfl))
 f228:=Tryz.func155.trans (congrArg some (by kernel_rfl))
 f231:=Tryz.func111.trans (congrArg some (by kernel_rfl))
 f233:=Tryz.func113.trans (congrArg some (by kernel_rfl))
 f235:=Tryz.func114.trans (congrArg some (by kernel_rfl))
 f260:=Tryz.func154.trans (congrArg some (by kernel_rfl))
 f266:=Tryz.func157.trans (congrArg some (by kernel_rfl))
 t0:=Tryz.underlying0
 a0:=Tryz.isAgg0
 z0:=Tryz.sizeOf0
 v0:=Tryz.zeroValue0
 t3:=Tryz.underlying3
 a3:=Tryz.isAgg3
 z3:=Tryz.sizeOf3
 v3:=Tryz.zeroValue3
 t4:=Tryz.underlying4
 a4:=Tryz.isAgg4
 z4:=Tryz.sizeOf4
 v4:=Tryz.zeroValue4
 t5:=Tryz.underlying5
 a5:=Tryz.isAgg5
 z5:=Tryz.sizeOf5
 v5:=Tryz.zeroValue5
 t9:=Tryz.underlying9
 a9:=Tryz.isAgg9
 z9:=Tryz.sizeOf9
 v9:=Tryz.zeroValue9
 t21:=Tryz.underlying21
 a21:=Tryz.isAgg21
 z21:=Tryz.sizeOf21
 v21:=Tryz.zeroValue21
 t46:=Tryz.underlying156
 a46:=Tryz.isAgg156
 z46:=Tryz.sizeOf156
 v46:=Tryz.zeroValue156
 t105:=Tryz.underlying120
 a105:=Tryz.isAgg120
 z105:=Tryz.sizeOf120
 v105:=Tryz.zeroValue120
 t116:=Tryz.underlying144
 a116:=Tryz.isAgg144
 z116:=Tryz.sizeOf144
 t117:=Tryz.underlying145
 a117:=Tryz.isAgg145
 z117:=Tryz.sizeOf145
 v117:=Tryz.zeroValue145
 t119:=Tryz.underlying181
 a119:=Tryz.isAgg181
 z119:=Tryz.sizeOf181
 t124:=Tryz.underlying148
 a124:=Tryz.isAgg148
 z124:=Tryz.sizeOf148
 v124:=Tryz.zeroValue148
 t138:=Tryz.underlying183
 a138:=Tryz.isAgg183
 z138:=Tryz.sizeOf183
 v138:=Tryz.zeroValue183
 t139:=Tryz.underlying184
 a139:=Tryz.isAgg184
 z139:=Tryz.sizeOf184
 v139:=Tryz.zeroValue184
 g3:=by kernel_rfl
 g4:=by kernel_rfl }
def Tryz.lays119_ren:Go.Shelf.Ren:=⟨fun|119=>209|n=>n,fun|21=>21|4=>4|n=>n,fun|n=>n⟩
theorem Tryz.lays119:Go.Proofs.Lays.n119 Tryz.prog Tryz.lays119_ren:={
 mixed:=by kernel_rfl
 f119:=Tryz.func209.trans (congrArg some (by kernel_rfl))
 t4:=Tryz.underlying4
 a4:=Tryz.isAgg4
 z4:=Tryz.sizeOf4
 v4:=Tryz.zeroValue4
 t21:=Tryz.underlying21
 a21:=Tryz.isAgg21
 z21:=Tryz.sizeOf21
 v21:=Tryz.zeroValue21 }
theorem Tryz.utf8_ValidRune(r:Int)(w:World) :
 Calls Tryz.prog 209 #[.int .i32 r] w fun e w'=>e = .returned (.bool (Lib.validRune r))∧w'=w:=Any.utf8_ValidRune Tryz.lays119 r w
def Tryz.lays143_ren:Go.Shelf.Ren:=⟨fun|143=>44|219=>70|217=>116|225=>120|224=>121|267=>122|266=>157|314=>158|n=>n,fun|9=>9|3=>3|4=>4|5=>5|46=>156|146=>172|51=>171|n=>n,fun|1=>0|n=>n⟩
theorem Tryz.lays143:Go.Proofs.Lays.n143 Tryz.prog Tryz.lays143_ren:={
 mixed:=by kernel_rfl
 f143:=Tryz.func44.trans (congrArg some (by kernel_rfl))
 f217:=Tryz.func116.trans (congrArg some (by kernel_rfl))
 f219:=Tryz.func70.trans (congrArg some (by kernel_rfl))
 f224:=Tryz.func121.trans (congrArg some (by kernel_rfl))
 f225:=Tryz.func120.trans (congrArg some (by kernel_rfl))
 f266:=Tryz.func157.trans (congrArg some (by kernel_rfl))
 f267:=Tryz.func122.trans (congrArg some (by kernel_rfl))
 f314:=Tryz.func158.trans (congrArg some (by kernel_rfl))
 t3:=Tryz.underlying3
 a3:=Tryz.isAgg3
 z3:=Tryz.sizeOf3
 v3:=Tryz.zeroValue3
 t4:=Tryz.underlying4
 a4:=Tryz.isAgg4
 z4:=Tryz.sizeOf4
 v4:=Tryz.zeroValue4
 t5:=Tryz.underlying5
 a5:=Tryz.isAgg5
 z5:=Tryz.sizeOf5
 v5:=Tryz.zeroValue5
 t9:=Tryz.underlying9
 a9:=Tryz.isAgg9
 z9:=Tryz.sizeOf9
 v9:=Tryz.zeroValue9
 t46:=Tryz.underlying156
 a46:=Tryz.isAgg156
 z46:=Tryz.sizeOf156
 v46:=Tryz.zeroValue156
 t51:=Tryz.underlying171
 a51:=Tryz.isAgg171
 z51:=Tryz.sizeOf171
 v51:=Tryz.zeroValue171
 t146:=Tryz.underlying172
 a146:=Tryz.isAgg172
 z146:=Tryz.sizeOf172
 v146:=Tryz.zeroValue172
 g1:=by kernel_rfl }
open Go.RowKit Go.Lib in
theorem Tryz.strings_Index(s sub:ByteArray)(m:Int)(w:World)(hs:s.size<4294967281)(hm:w.cell? ⟨0,0,none⟩=some (.int .i64 m)) :
 Calls Tryz.prog 44 #[.string s,.string sub] w fun e w'=>e = .returned (.int .i64 (Lib.index s.data.toList sub.data.toList))∧w'=w:=Any.strings_Index Tryz.lays143 s sub m w hs hm
def Tryz.lays144_ren:Go.Shelf.Ren:=⟨fun|144=>34|143=>44|219=>70|217=>116|225=>120|224=>121|267=>122|266=>157|314=>158|n=>n,fun|9=>9|4=>4|3=>3|5=>5|46=>156|146=>172|51=>171|n=>n,fun|1=>0|n=>n⟩
theorem Tryz.lays144:Go.Proofs.Lays.n144 Tryz.prog Tryz.lays144_ren:={
 mixed:=by kernel_rfl
 f143:=Tryz.func44.trans (congrArg some (by kernel_rfl))
 f144:=Tryz.func34.trans (congrArg some (by kernel_rfl))
 f217:=Tryz.func116.trans (congrArg some (by kernel_rfl))
 f219:=Tryz.func70.trans (congrArg some (by kernel_rfl))
 f224:=Tryz.func121.trans (congrArg some (by kernel_rfl))
 f225:=Tryz.func120.trans (congrArg some (by kernel_rfl))
 f266:=Tryz.func157.trans (congrArg some (by kernel_rfl))
 f267:=Tryz.func122.trans (congrArg some (by kernel_rfl))
 f314:=Tryz.func158.trans (congrArg some (by kernel_rfl))
 t3:=Tryz.underlying3
 a3:=Tryz.isAgg3
 z3:=Tryz.sizeOf3
 v3:=Tryz.zeroValue3
 t4:=Tryz.underlying4
 a4:=Tryz.isAgg4
 z4:=Tryz.sizeOf4
 v4:=Tryz.zeroValue4
 t5:=Tryz.underlying5
 a5:=Tryz.isAgg5
 z5:=Tryz.sizeOf5
 v5:=Tryz.zeroValue5
 t9:=Tryz.underlying9
 a9:=Tryz.isAgg9
 z9:=Tryz.sizeOf9
 v9:=Tryz.zeroValue9
 t46:=Tryz.underlying156
 a46:=Tryz.isAgg156
 z46:=Tryz.sizeOf156
 v46:=Tryz.zeroValue156
 t51:=Tryz.underlying171
 a51:=Tryz.isAgg171
 z51:=Tryz.sizeOf171
 v51:=Tryz.zeroValue171
 t146:=Tryz.underlying172
 a146:=Tryz.isAgg172
 z146:=Tryz.sizeOf172
 v146:=Tryz.zeroValue172
 g1:=by kernel_rfl }
open Go.RowKit Go.Lib in
theorem Tryz.strings_Contains_one(s:ByteArray)(c:UInt8)(w:World) :
 Calls Tryz.prog 34 #[.string s,.string ⟨#[c]⟩] w fun e w'=>e = .returned (.bool (decide (0≤Lib.indexByte s.data.toList c)))∧w'=w:=Any.strings_Contains_one Tryz.lays144 s c w
open Go.RowKit Go.Lib in
theorem Tryz.strings_Contains(s sub:ByteArray)(m:Int)(w:World)(hs:s.size<4294967281)(hm:w.cell? ⟨0,0,none⟩=some (.int .i64 m)) :
 Calls Tryz.prog 34 #[.string s,.string sub] w fun e w'=>e = .returned (.bool (Lib.contains s.data.toList sub.data.toList))∧w'=w:=Any.strings_Contains Tryz.lays144 s sub m w hs hm
def Tryz.lays155_ren:Go.Shelf.Ren:=⟨fun|155=>123|154=>159|138=>180|165=>181|143=>44|166=>182|197=>110|169=>183|195=>210|218=>211|240=>212|241=>213|219=>70|260=>154|276=>230|277=>231|217=>116|225=>120|224=>121|267=>122|266=>157|314=>158|n=>n,fun|9=>9|3=>3|4=>4|72=>188|0=>0|76=>191|105=>120|21=>21|5=>5|70=>186|20=>20|37=>55|75=>190|127=>198|164=>204|46=>156|119=>181|139=>184|138=>183|146=>172|51=>171|80=>138|n=>n,fun|1=>0|3=>1|4=>2|n=>n⟩
theorem Tryz.lays155:Go.Proofs.Lays.n155 Tryz.prog Tryz.lays155_ren:={
 mixed:=by kernel_rfl
 f138:=Tryz.func180.trans (congrArg some (by kernel_rfl))
 f143:=Tryz.func44.trans (congrArg some (by kernel_rfl))
 f154:=Tryz.func159.trans (congrArg some (by kernel_rfl))
 f155:=Tryz.func123.trans (congrArg some (by kernel_rfl))
 f165:=Tryz.func181.trans (congrArg some (by kernel_rfl))
 f166:=Tryz.func182.trans (congrArg some (by kernel_rfl))
 f169:=Tryz.func183.trans (congrArg some (by kernel_rfl))
 f195:=Tryz.func210.trans (congrArg some (by kernel_rfl))
 f197:=Tryz.func110.trans (congrArg some (by kernel_rfl))
 f217:=Tryz.func116.trans (congrArg some (by kernel_rfl))
 f218:=Tryz.func211.trans (congrArg some (by kernel_rfl))
 f219:=Tryz.func70.trans (congrArg some (by kernel_rfl))
 f224:=Tryz.func121.trans (congrArg some (by kernel_rfl))
 f225:=Tryz.func120.trans (congrArg some (by kernel_rfl))
 f240:=Tryz.func212.trans (congrArg some (by kernel_rfl))
 f241:=Tryz.func213.trans (congrArg some (by kernel_rfl))
 f260:=Tryz.func154.trans (congrArg some (by kernel_rfl))
 f266:=Tryz.func157.trans (congrArg some (by kernel_rfl))
 f267:=Tryz.func122.trans (congrArg some (by kernel_rfl))
 f276:=Tryz.func230.trans (congrArg some (by kernel_rfl))
 f277:=Tryz.func231.trans (congrArg some (by kernel_rfl))
 f314:=Tryz.func158.trans (congrArg some (by kernel_rfl))
 t0:=Tryz.underlying0
 a0:=Tryz.isAgg0
 z0:=Tryz.sizeOf0
 v0:=Tryz.zeroValue0
 t3:=Tryz.underlying3
 a3:=Tryz.isAgg3
 z3:=Tryz.sizeOf3
 v3:=Tryz.zeroValue3
 t4:=Tryz.underlying4
 a4:=Tryz.isAgg4
 z4:=Tryz.sizeOf4
 v4:=Tryz.zeroValue4
 t5:=Tryz.underlying5
 a5:=Tryz.isAgg5
 z5:=Tryz.sizeOf5
 v5:=Tryz.zeroValue5
 t9:=Tryz.underlying9
 a9:=Tryz.isAgg9
 z9:=Tryz.sizeOf9
 v9:=Tryz.zeroValue9
 t20:=Tryz.underlying20
 a20:=Tryz.isAgg20
 z20:=Tryz.sizeOf20
 v20:=Tryz.zeroValue20
 t21:=Tryz.underlying21
 a21:=Tryz.isAgg21
 z21:=Tryz.sizeOf21
 v21:=Tryz.zeroValue21
 t37:=Tryz.underlying55
 a37:=Tryz.isAgg55
 z37:=Tryz.sizeOf55
 v37:=Tryz.zeroValue55
 t46:=Tryz.underlying156
 a46:=Tryz.isAgg156
 z46:=Tryz.sizeOf156
 v46:=Tryz.zeroValue156
 t51:=Tryz.underlying171
 a51:=Tryz.isAgg171
 z51:=Tryz.sizeOf171
 v51:=Tryz.zeroValue171
 t70:=Tryz.underlying186
 a70:=Tryz.isAgg186
 z70:=Tryz.sizeOf186
 v70:=Tryz.zeroValue186
 t72:=Tryz.underlying188
 a72:=Tryz.isAgg188
 z72:=Tryz.sizeOf188
 v72:=Tryz.zeroValue188
 t75:=Tryz.underlying190
 a75:=Tryz.isAgg190
 z75:=Tryz.sizeOf190
 v75:=Tryz.zeroValue190
 t76:=Tryz.underlying191
 a76:=Tryz.isAgg191
 z76:=Tryz.sizeOf191
 v76:=Tryz.zeroValue191
 t105:=Tryz.underlying120
 a105:=Tryz.isAgg120
 z105:=Tryz.sizeOf120
 v105:=Tryz.zeroValue120
 t119:=Tryz.underlying181
 a119:=Tryz.isAgg181
 z119:=Tryz.sizeOf181
 t127:=Tryz.underlying198
 a127:=Tryz.isAgg198
 z127:=Tryz.sizeOf198
 v127:=Tryz.zeroValue198
 t138:=Tryz.underlying183
 a138:=Tryz.isAgg183
 z138:=Tryz.sizeOf183
 v138:=Tryz.zeroValue183
 t139:=Tryz.underlying184
 a139:=Tryz.isAgg184
 z139:=Tryz.sizeOf184
 v139:=Tryz.zeroValue184
 t146:=Tryz.underlying172
 a146:=Tryz.isAgg172
 z146:=Tryz.sizeOf172
 v146:=Tryz.zeroValue172
 t164:=Tryz.underlying204
 a164:=Tryz.isAgg204
 z164:=Tryz.sizeOf204
 v164:=Tryz.zeroValue204
 g1:=by kernel_rfl
 g3:=by kernel_rfl
 g4:=by kernel_rfl }
theorem Tryz.Builder_Extra_155:Builder.Extra Tryz.prog Tryz.lays155_ren:={
 sizeBuilder:=by kernel_rfl
 liesBuilder:=by kernel_rfl
 t5:=Tryz.underlying5
 a5:=Tryz.isAgg5
 z5:=Tryz.sizeOf5
 v5:=Tryz.zeroValue5
 infoByte:=by kernel_rfl
 cellsByte:=by kernel_rfl
 sizeByte:=by kernel_rfl
 neB5:=by decide }
open Go.RowKit Go.Lib in
theorem Tryz.strings_ReplaceAll(s old new:ByteArray)(m:Int)(w:World)(hs:s.size<4294967281)(hm:w.cell? ⟨0,0,none⟩=some (.int .i64 m))(h1:1≤old.size)(hlen:s.size+Lib.countB s old*new.size≤140737488355328) :
 Calls Tryz.prog 123 #[.string s,.string old,.string new] w fun e w'=>
  e = .returned (.string ⟨(Lib.replaceAll s.data.toList old.data.toList new.data.toList).toArray⟩)∧Below w.heap.size w w':=Any.strings_ReplaceAll Tryz.lays155 Tryz.Builder_Extra_155 s old new m w hs hm h1 hlen
def Tryz.lays197_ren:Go.Shelf.Ren:=⟨fun|197=>110|260=>154|n=>n,fun|9=>9|21=>21|3=>3|4=>4|5=>5|105=>120|119=>181|0=>0|46=>156|139=>184|138=>183|n=>n,fun|3=>1|4=>2|n=>n⟩
theorem Tryz.lays197:Go.Proofs.Lays.n197 Tryz.prog Tryz.lays197_ren:={
 mixed:=by kernel_rfl
 f197:=Tryz.func110.trans (congrArg some (by kernel_rfl))
 f260:=Tryz.func154.trans (congrArg some (by kernel_rfl))
 t0:=Tryz.underlying0
 a0:=Tryz.isAgg0
 z0:=Tryz.sizeOf0
 v0:=Tryz.zeroValue0
 t3:=Tryz.underlying3
 a3:=Tryz.isAgg3
 z3:=Tryz.sizeOf3
 v3:=Tryz.zeroValue3
 t4:=Tryz.underlying4
 a4:=Tryz.isAgg4
 z4:=Tryz.sizeOf4
 v4:=Tryz.zeroValue4
 t5:=Tryz.underlying5
 a5:=Tryz.isAgg5
 z5:=Tryz.sizeOf5
 v5:=Tryz.zeroValue5
 t9:=Tryz.underlying9
 a9:=Tryz.isAgg9
 z9:=Tryz.sizeOf9
 v9:=Tryz.zeroValue9
 t21:=Tryz.underlying21
 a21:=Tryz.isAgg21
 z21:=Tryz.sizeOf21
 v21:=Tryz.zeroValue21
 t46:=Tryz.underlying156
 a46:=Tryz.isAgg156
 z46:=Tryz.sizeOf156
 v46:=Tryz.zeroValue156
 t105:=Tryz.underlying120
 a105:=Tryz.isAgg120
 z105:=Tryz.sizeOf120
 v105:=Tryz.zeroValue120
 t119:=Tryz.underlying181
 a119:=Tryz.isAgg181
 z119:=Tryz.sizeOf181
 t138:=Tryz.underlying183
 a138:=Tryz.isAgg183
 z138:=Tryz.sizeOf183
 v138:=Tryz.zeroValue183
 t139:=Tryz.underlying184
 a139:=Tryz.isAgg184
 z139:=Tryz.sizeOf184
 v139:=Tryz.zeroValue184
 g3:=by kernel_rfl
 g4:=by kernel_rfl }
def Tryz.lays260_ren:Go.Shelf.Ren:=⟨fun|260=>154|n=>n,fun|9=>9|21=>21|3=>3|4=>4|5=>5|119=>181|0=>0|46=>156|139=>184|138=>183|n=>n,fun|3=>1|4=>2|n=>n⟩
theorem Tryz.lays260:Go.Proofs.Lays.n260 Tryz.prog Tryz.lays260_ren:={
 mixed:=by kernel_rfl
 f260:=Tryz.func154.trans (congrArg some (by kernel_rfl))
 t0:=Tryz.underlying0
 a0:=Tryz.isAgg0
 z0:=Tryz.sizeOf0
 v0:=Tryz.zeroValue0
 t3:=Tryz.underlying3
 a3:=Tryz.isAgg3
 z3:=Tryz.sizeOf3
 v3:=Tryz.zeroValue3
 t4:=Tryz.underlying4
 a4:=Tryz.isAgg4
 z4:=Tryz.sizeOf4
 v4:=Tryz.zeroValue4
 t5:=Tryz.underlying5
 a5:=Tryz.isAgg5
 z5:=Tryz.sizeOf5
 v5:=Tryz.zeroValue5
 t9:=Tryz.underlying9
 a9:=Tryz.isAgg9
 z9:=Tryz.sizeOf9
 v9:=Tryz.zeroValue9
 t21:=Tryz.underlying21
 a21:=Tryz.isAgg21
 z21:=Tryz.sizeOf21
 v21:=Tryz.zeroValue21
 t46:=Tryz.underlying156
 a46:=Tryz.isAgg156
 z46:=Tryz.sizeOf156
 v46:=Tryz.zeroValue156
 t119:=Tryz.underlying181
 a119:=Tryz.isAgg181
 z119:=Tryz.sizeOf181
 t138:=Tryz.underlying183
 a138:=Tryz.isAgg183
 z138:=Tryz.sizeOf183
 v138:=Tryz.zeroValue183
 t139:=Tryz.underlying184
 a139:=Tryz.isAgg184
 z139:=Tryz.sizeOf184
 v139:=Tryz.zeroValue184
 g3:=by kernel_rfl
 g4:=by kernel_rfl }
open Go.RowKit Go.Lib in
theorem Tryz.utf8_DecodeRuneInString(s:ByteArray)(w:World)(hT:Lib.Utf8Tabs 1 2 w) :
 Calls Tryz.prog 110 #[.string s] w fun e w'=>e = .returned (.tuple #[.int .i32 (Lib.decodeGo s).1,.int .i64 (Lib.decodeGo s).2])∧Below w.heap.size w w':=Any.utf8_DecodeRuneInString Tryz.lays197 s w hT
end Go.Proofs
namespace Go.Ex
open Go.Proofs
attribute [local irreducible] CH
structure Spn where
 frm:Int
 to:Int
def spanR:Rep Spn where
 dflt:=⟨0,0⟩
 sz:=2
 cells:=fun x=>[.int .i32 x.frm,.int .i32 x.to]
 un:=fun l=>match l with
  |[.int .i32 a,.int .i32 b]=>some ⟨a,b⟩
  |_=>none
 len:=fun _=>rfl
 un_ok:=fun l x h=>by
  split at h
  ·cases h;rfl
  ·cases h
 one:=fun x v h=>by simp at h;rcases h with rfl|rfl<;>rfl
 pos:=by decide
structure Tok where
 kind:Int
 frm:Int
 to:Int
def tokR:Rep Tok where
 dflt:=⟨0,0,0⟩
 sz:=3
 cells:=fun x=>[.int .u8 x.kind,.int .i64 x.frm,.int .i64 x.to]
 un:=fun l=>match l with
  |[.int .u8 a,.int .i64 b,.int .i64 c]=>some ⟨a,b,c⟩
  |_=>none
 len:=fun _=>rfl
 un_ok:=fun l x h=>by
  split at h
  ·cases h;rfl
  ·cases h
 one:=fun x v h=>by simp at h;rcases h with rfl|rfl|rfl<;>rfl
 pos:=by decide
def ptrR:Rep (Option Addr) where
 dflt:=none
 sz:=1
 cells:=fun o=>[.pointer o]
 un:=fun l=>match l with
  |[.pointer o]=>some o
  |_=>none
 len:=fun _=>rfl
 un_ok:=fun l x h=>by
  split at h
  ·cases h;rfl
  ·cases h
 one:=fun x v h=>by simp at h;subst h;rfl
 pos:=by decide
structure Nde where
 kind:Int
 kids:Int
 word:Int
 frm:Int
 to:Int
def ndeR:Rep Nde where
 dflt:=⟨0,0,0,0,0⟩
 sz:=5
 cells:=fun x=>[.int .u8 x.kind,.int .i64 x.kids,.int .i64 x.word,.int .i64 x.frm,.int .i64 x.to]
 un:=fun l=>match l with
  |[.int .u8 a,.int .i64 b,.int .i64 c,.int .i64 d,.int .i64 e]=>some ⟨a,b,c,d,e⟩
  |_=>none
 len:=fun _=>rfl
 un_ok:=fun l x h=>by
  split at h
  ·cases h;rfl
  ·cases h
 one:=fun x v h=>by simp at h;rcases h with rfl|rfl|rfl|rfl|rfl<;>rfl
 pos:=by decide
structure Prt where
 kind:Int
 kids:Int
 word:ByteArray
def prtR:Rep Prt where
 dflt:=⟨0,0,⟨#[]⟩⟩
 sz:=3
 cells:=fun x=>[.int .u8 x.kind,.int .i64 x.kids,.string x.word]
 un:=fun l=>match l with
  |[.int .u8 a,.int .i64 b,.string c]=>some ⟨a,b,c⟩
  |_=>none
 len:=fun _=>rfl
 un_ok:=fun l x h=>by
  split at h
  ·cases h;rfl
  ·cases h
 one:=fun x v h=>by simp at h;rcases h with rfl|rfl|rfl<;>rfl
 pos:=by decide
def rep:Nat→Option RepS
 |3=>some ⟨intR .i64⟩
 |5=>some ⟨intR .u8⟩
 |21=>some ⟨intR .i32⟩
 |40=>some ⟨tokR⟩
 |45=>some ⟨ndeR⟩
 |51=>some ⟨prtR⟩
 |63=>some ⟨ptrR⟩
 |93=>some ⟨intR .i64⟩
 |150=>some ⟨spanR⟩
 |151=>some ⟨spanR⟩
 |_=>none
theorem prop_true{p:Prop}(h:p):denC (.prop p) = .bool true:=by simp [denC,h]
theorem prop_false{p:Prop}(h:¬ p):denC (.prop p) = .bool false:=by simp [denC,h]
def valD(c:Int):Int:=if 48≤c∧c≤57 then c-48 else if 97≤c∧c≤102 then c-97+10 else if 65≤c∧c≤70 then c-65+10 else 99
theorem value_any(c:Int)(h:Heap)(hc:0≤c∧c<256):CH Tryz.prog 119 #[.int .u8 c] h fun v h'=>v = .int .i64 (valD c)∧Grows h h':=by
 refine enter (rep:=rep) (m:=4) (ex:=[13,24]) (cu:=[]) tO Tryz.func119 rfl (by decide) (rs:=[.tmp 2]) rfl rfl [.val (.int .u8 c)] rfl ?_
 obtain⟨c0,c1⟩:=hc
 ((repeat' ((conv=>whnf);(first|(refine Ar.fit (by omega) ?_)|(refine Br.mk ?_ ?_<;>intro hb<;>(try (exfalso;omega)))|fail)));all_goals (try (conv=>whnf)))
 all_goals exact⟨fun h' hs=>⟨int_eq (by simp only [valD];split<;>first|omega|(split<;>first|omega|(split<;>omega))),hs.grows⟩⟩
def Dig(s:ByteArray)(base n:Int):Prop:=n<s.size∧valD (byteI s n)<base
instance (s:ByteArray) (base n:Int):Decidable (Dig s base n):=by unfold Dig;exact inferInstance
theorem byteI_rng(s:ByteArray)(i:Int):0≤byteI s i∧byteI s i<256:=by
 simp only [byteI]
 have:=(s.data.toList.getD i.toNat 0).toNat_lt
 omega
def rowGo(s:ByteArray)(base:Int):Nat→Int→Int
 |0,n=>n
 |f+1,n=>if Dig s base n then (if n+1+1<s.size∧byteI s (n+1)=95∧valD (byteI s (n+1+1))<base then rowGo s base f (n+1+1) else rowGo s base f (n+1)) else n
def rowF(s:ByteArray)(base:Int):Int:=rowGo s base s.size 0
theorem row_any(s:ByteArray)(base:Int)(h:Heap)(hs:s.size≤140737488355328):CH Tryz.prog 77 #[.string s,.int .i64 base] h fun v h'=>v = .int .i64 (rowF s base)∧Grows h h':=by
 refine enter (rep:=rep) (m:=7) (ex:=[9,31]) (cu:=[]) tO Tryz.func77 rfl (by decide) (rs:=[.tmp 4]) rfl rfl [.val (.string s),.val (.int .i64 base)] rfl ?_
 ((repeat' ((conv=>whnf);(first|(refine VC.mk (by omega) ?_)|(refine New.mk ?_;intro b hb)|fail)));all_goals (try (conv=>whnf)))
 rename_i b2 hb2 b3 hb3
 refine loop_rule tO [] (fun n:Int=>[]) (fun n=>[(5,b,.box 3 [.val (.int .i64 n)]),(3,b3,.box 3 [.val (.int .i64 base)]),(2,b2,.box 9 [.val (.string s)])]) (fun μ n=>0≤n∧n≤s.size∧s.size-n≤μ∧rowGo s base μ n=rowF s base) s.size 0 ?_
 conv=>whnf
 refine⟨by ((repeat (refine⟨rfl,?_⟩));trivial),⟨rfl,rfl,rfl,rfl,rfl,rfl,trivial⟩,⟨by omega,by omega,by omega,rfl⟩,?_⟩
 rintro μ n ⟨a0,a1,a2,a3⟩
 have r0:=byteI_rng s n
 have r1:=byteI_rng s (n+1+1)
 dsimp only
 by_cases hd:Dig s base n
 ·obtain⟨f,rfl⟩:∃ f,μ=f+1:=⟨μ-1,by have:=hd.1;omega⟩
  simp only [rowGo] at a3
  rw [if_pos hd] at a3
  obtain⟨d1,d2⟩:=hd
  by_cases hu:n+1+1<s.size∧byteI s (n+1)=95∧valD (byteI s (n+1+1))<base
  ·rw [if_pos hu] at a3
   ((repeat' ((conv=>whnf);(first|(refine Ar.fit (by omega) ?_)|(refine VC.mk (by omega) ?_)|(refine Br.mk ?_ ?_<;>intro hb<;>(try (exfalso;omega)))|(refine drawn tO mixed (by kernel_rfl) ?_)|(refine CK.inline (rep:=rep) tO Tryz.func129 rfl (by decide) (rs:=[.tmp 3]) rfl 4 [] [] rfl rfl rfl ?_)|(apply CallQ.pure;(case hh=>(intro h1 hs;exact value_any _ h1 (by omega))))|fail)));all_goals (try (conv=>whnf)))
   all_goals exact⟨f,n+1+1,⟨by omega,by omega,by omega,a3⟩,by omega,by ((repeat (refine⟨rfl,?_⟩));trivial),rfl,rfl,⟨rfl,rfl,rfl,rfl,rfl,rfl,trivial⟩⟩
  ·rw [if_neg hu] at a3
   ((repeat' ((conv=>whnf);(first|(refine Ar.fit (by omega) ?_)|(refine VC.mk (by omega) ?_)|(refine Br.mk ?_ ?_<;>intro hb<;>(try (exfalso;omega)))|(refine drawn tO mixed (by kernel_rfl) ?_)|(refine CK.inline (rep:=rep) tO Tryz.func129 rfl (by decide) (rs:=[.tmp 3]) rfl 4 [] [] rfl rfl rfl ?_)|(apply CallQ.pure;(case hh=>(intro h1 hs;exact value_any _ h1 (by omega))))|fail)));all_goals (try (conv=>whnf)))
   all_goals exact⟨f,n+1,⟨by omega,by omega,by omega,a3⟩,by omega,by ((repeat (refine⟨rfl,?_⟩));trivial),rfl,rfl,⟨rfl,rfl,rfl,rfl,rfl,rfl,trivial⟩⟩
 ·have hr:n=rowF s base:=by
   rw [←a3]
   cases μ with
   |zero=>rfl
   |succ f=>simp only [rowGo];rw [if_neg hd]
  simp only [Dig] at hd
  ((repeat' ((conv=>whnf);(first|(refine VC.mk (by omega) ?_)|(refine Br.mk ?_ ?_<;>intro hb<;>(try (exfalso;omega)))|(refine drawn tO mixed (by kernel_rfl) ?_)|(refine CK.inline (rep:=rep) tO Tryz.func129 rfl (by decide) (rs:=[.tmp 3]) rfl 4 [] [] rfl rfl rfl ?_)|(apply CallQ.pure;(case hh=>(intro h1 hs;exact value_any _ h1 (by omega))))|fail)));all_goals (try (conv=>whnf)))
  all_goals exact⟨fun h' hs=>⟨int_eq hr,hs.grows⟩⟩
theorem rowGo_rng(s:ByteArray)(base:Int):∀ (f:Nat) (n:Int),n≤s.size→n≤rowGo s base f n∧rowGo s base f n≤s.size
 |0,n,h=>⟨Int.le_refl _,h⟩
 |f+1,n,h=>by
  simp only [rowGo]
  split
  ·rename_i hd
   have:=hd.1
   split
   ·have:=rowGo_rng s base f (n+1+1) (by omega);omega
   ·have:=rowGo_rng s base f (n+1) (by omega);omega
  ·omega
theorem rowF_rng(s:ByteArray)(base:Int):0≤rowF s base∧rowF s base≤s.size:=rowGo_rng s base s.size 0 (by omega)
end Go.Ex
namespace Go.Ex
open Go.Proofs
attribute [local irreducible] CH
theorem str_eq{a b:ByteArray}(h:a=b):den (.val (.string a)) = .string b:=by rw [h];rfl
abbrev sub(s:ByteArray)(a b:Int):ByteArray:=s.extract a.toNat b.toNat
theorem sub_size(s:ByteArray)(a b:Int)(h0:0≤a)(h1:a≤b)(h2:b≤s.size):((sub s a b).size:Int)=b-a:=by
 simp only [ByteArray.size_extract];omega
def HasP(s p:ByteArray):Prop:=(p.size:Int)≤s.size∧sub s 0 p.size=p
instance (s p:ByteArray):Decidable (HasP s p):=by unfold HasP;exact inferInstance
def HasS(s p:ByteArray):Prop:=(p.size:Int)≤s.size∧sub s (s.size-p.size) s.size=p
instance (s p:ByteArray):Decidable (HasS s p):=by unfold HasS;exact inferInstance
def trimP(s p:ByteArray):ByteArray:=if HasP s p then sub s p.size s.size else s
theorem lhasp_any(s p:ByteArray)(h:Heap):CH Tryz.prog 115 #[.string s,.string p] h fun v h'=>v=denC (.prop (HasP s p))∧Grows h h':=by
 refine enter (rep:=rep) (m:=5) (ex:=[]) (cu:=[]) tO Tryz.func115 rfl (by decide) (rs:=[.tmp 4]) rfl rfl [.val (.string s),.val (.string p)] rfl ?_
 ((repeat' ((conv=>whnf);(first|(refine VC.mk (by omega) ?_)|(refine Br.mk ?_ ?_<;>intro hb)|fail)));all_goals (try (conv=>whnf)))
 ·exact⟨fun h' hs=>⟨prop_eq ⟨fun h=>⟨hb,h⟩,fun h=>h.2⟩,hs.grows⟩⟩
 ·exact⟨fun h' hs=>⟨bool_no (fun h=>hb h.1),hs.grows⟩⟩
theorem hasp_any(s p:ByteArray)(h:Heap):CH Tryz.prog 63 #[.string s,.string p] h fun v h'=>v=denC (.prop (HasP s p))∧Grows h h':=by
 refine enter (rep:=rep) (m:=5) (ex:=[]) (cu:=[]) tO Tryz.func63 rfl (by decide) (rs:=[.tmp 4]) rfl rfl [.val (.string s),.val (.string p)] rfl ?_
 ((repeat' ((conv=>whnf);(first|(apply CK.pure;(case hh=>(intro h1 hs;exact lhasp_any s p h1)))|fail)));all_goals (try (conv=>whnf)))
 exact⟨fun h' hs=>⟨prop_eq (by simp only [decide_eq_true_eq]),hs.grows⟩⟩
theorem lhass_any(s p:ByteArray)(h:Heap)(hs:s.size≤140737488355328):CH Tryz.prog 128 #[.string s,.string p] h fun v h'=>v=denC (.prop (HasS s p))∧Grows h h':=by
 refine enter (rep:=rep) (m:=5) (ex:=[]) (cu:=[]) tO Tryz.func128 rfl (by decide) (rs:=[.tmp 4]) rfl rfl [.val (.string s),.val (.string p)] rfl ?_
 ((repeat' ((conv=>whnf);(first|(refine Ar.fit (by omega) ?_)|(refine VC.mk (by omega) ?_)|(refine Br.mk ?_ ?_<;>intro hb)|fail)));all_goals (try (conv=>whnf)))
 ·exact⟨fun h' hs=>⟨prop_eq ⟨fun h=>⟨hb,h⟩,fun h=>h.2⟩,hs.grows⟩⟩
 ·exact⟨fun h' hs=>⟨bool_no (fun h=>hb h.1),hs.grows⟩⟩
theorem hass_any(s p:ByteArray)(h:Heap)(hs:s.size≤140737488355328):CH Tryz.prog 76 #[.string s,.string p] h fun v h'=>v=denC (.prop (HasS s p))∧Grows h h':=by
 refine enter (rep:=rep) (m:=5) (ex:=[]) (cu:=[]) tO Tryz.func76 rfl (by decide) (rs:=[.tmp 4]) rfl rfl [.val (.string s),.val (.string p)] rfl ?_
 have hs':=hs
 ((repeat' ((conv=>whnf);(first|(apply CK.pure;(case hh=>(intro h1 hs;exact lhass_any s p h1 hs')))|fail)));all_goals (try (conv=>whnf)))
 exact⟨fun h' hs=>⟨prop_eq (by simp only [decide_eq_true_eq]),hs.grows⟩⟩
theorem ltrimp_any(s p:ByteArray)(h:Heap):CH Tryz.prog 186 #[.string s,.string p] h fun v h'=>v = .string (trimP s p)∧Grows h h':=by
 refine enter (rep:=rep) (m:=5) (ex:=[7]) (cu:=[]) tO Tryz.func186 rfl (by decide) (rs:=[.tmp 4]) rfl rfl [.val (.string s),.val (.string p)] rfl ?_
 by_cases hp:HasP s p
 ·have hp1:=hp.1
  ((repeat' ((conv=>whnf);(first|(refine VC.mk (by omega) ?_)|(refine Br.mk ?_ ?_<;>intro hb<;>(try (exact absurd rfl hb)))|(apply CK.pure;(case hh=>(intro h1 hs;exact (lhasp_any s p h1).mono (fun v h' ⟨e1,e2⟩=>⟨e1.trans (prop_true hp),e2⟩))))|fail)));all_goals (try (conv=>whnf)))
  all_goals exact⟨fun h' hs=>⟨str_eq (by rw [trimP,if_pos hp]),hs.grows⟩⟩
 ·((repeat' ((conv=>whnf);(first|(refine Br.mk ?_ ?_<;>intro hb<;>(try (exact Bool.noConfusion hb)))|(apply CK.pure;(case hh=>(intro h1 hs;exact (lhasp_any s p h1).mono (fun v h' ⟨e1,e2⟩=>⟨e1.trans (prop_false hp),e2⟩))))|fail)));all_goals (try (conv=>whnf)))
  all_goals exact⟨fun h' hs=>⟨str_eq (by rw [trimP,if_neg hp]),hs.grows⟩⟩
theorem trimp_any(s p:ByteArray)(h:Heap):CH Tryz.prog 162 #[.string s,.string p] h fun v h'=>v = .string (trimP s p)∧Grows h h':=by
 refine enter (rep:=rep) (m:=5) (ex:=[]) (cu:=[]) tO Tryz.func162 rfl (by decide) (rs:=[.tmp 4]) rfl rfl [.val (.string s),.val (.string p)] rfl ?_
 ((repeat' ((conv=>whnf);(first|(apply CK.pure;(case hh=>(intro h1 hs;exact ltrimp_any s p h1)))|fail)));all_goals (try (conv=>whnf)))
 exact⟨fun h' hs=>⟨rfl,hs.grows⟩⟩
theorem ib157(s:ByteArray)(c:Int)(w:World):(callFunc 157 #[.string s,.int .u8 c]).run Tryz.prog w = .ok (.value (.int .i64 (Go.Lib.indexByte s.data.toList c.toNat.toUInt8))) w:=by
 rw [run_callFunc_extern (e:=Extern.BytealgIndexByte.indexByte) Tryz.func157 (by decide) rfl (by decide +kernel) (by kernel_rfl)]
 rw [Go.Lib.run_indexByteString]
 rfl
def idxB(s:ByteArray)(c:Int):Int:=Go.Lib.indexByte s.data.toList c.toNat.toUInt8
theorem idxB_rng(s:ByteArray)(c:Int) : -1≤idxB s c∧idxB s c<s.size:=by
 refine⟨Go.Lib.indexByte_ge _ _,?_⟩
 have key:∀ (l:List UInt8) (c:UInt8),Go.Lib.indexByte l c<l.length:=by
  intro l c
  induction l with
  |nil=>simp [Go.Lib.indexByte]
  |cons b l ih=>
   unfold Go.Lib.indexByte
   simp only [List.length_cons]
   split
   ·omega
   ·split<;>omega
 have:=key s.data.toList c.toNat.toUInt8
 rw [Array.length_toList] at this
 exact this
theorem libyte_any(s:ByteArray)(c:Int)(h:Heap):CH Tryz.prog 116 #[.string s,.int .u8 c] h fun v h'=>v = .int .i64 (idxB s c)∧Grows h h':=by
 refine enter (rep:=rep) (m:=5) (ex:=[]) (cu:=[]) tO Tryz.func116 rfl (by decide) (rs:=[.tmp 4]) rfl rfl [.val (.string s),.val (.int .u8 c)] rfl ?_
 (try (conv=>whnf))
 refine CK.ext _ (fun w=>ib157 s c w) ?_
 (try (conv=>whnf))
 exact⟨fun h' hs=>⟨rfl,hs.grows⟩⟩
theorem ibyte_any(s:ByteArray)(c:Int)(h:Heap):CH Tryz.prog 64 #[.string s,.int .u8 c] h fun v h'=>v = .int .i64 (idxB s c)∧Grows h h':=by
 refine enter (rep:=rep) (m:=5) (ex:=[]) (cu:=[]) tO Tryz.func64 rfl (by decide) (rs:=[.tmp 4]) rfl rfl [.val (.string s),.val (.int .u8 c)] rfl ?_
 ((repeat' ((conv=>whnf);(first|(apply CK.pure;(case hh=>(intro h1 hs;exact libyte_any s c h1)))|fail)));all_goals (try (conv=>whnf)))
 exact⟨fun h' hs=>⟨rfl,hs.grows⟩⟩
end Go.Ex
