/-
  The contracts of the library's functions that the kit's shelf lays at this seat's program (written by the kit's tool; its remarks are taken out). Conditions: each theorem's own.
-/
import Derived.Shelf.Strings.Builder1
import Derived.Shelf.Strings.Builder2
import Derived.Shelf.Strings.OnBuilder
import Derived.Shelf.Small.Bits
import Derived.Shelf.Small.Strs
import Derived.Shelf.Small.Wraps
import Derived.Shelf.Strings.BuilderF
import Derived.Shelf.Strings.BuilderK
import Derived.Shelf.Strings.Builder2Cap
import Derived.Shelf.Strconv.Itoa0
import Derived.Shelf.Strings.Search1
import Derived.Shelf.Sort.Plain
import Derived.Shelf.Strings.BuilderCap
import Derived.Shelf.Slices.Equal
import Derived.Shelf.Slices.In.SortNone
import Derived.Ground.SlgnProg
import Derived.Shelf.SlicesE.Equal
import Derived.Ground.SlgfProg
import Derived.Shelf.SlicesE.IndexFunc
import Derived.Test.YtdmjegelcdghlaaGreatProg
set_option maxRecDepth 100000
set_option maxHeartbeats 64000000
set_option linter.unusedVariables false
set_option linter.unusedSimpArgs false
namespace Go.Proofs
open Go.Shelf
def Tryz.lays156_ren:Go.Shelf.Ren:=⟨fun|156=>123|165=>136|166=>137|169=>138|240=>161|241=>162|276=>185|277=>186|n=>n,fun|31=>22|9=>9|3=>3|4=>4|0=>0|20=>20|72=>165|76=>168|70=>163|37=>156|75=>167|127=>192|164=>212|5=>5|80=>170|n=>n,fun|n=>n⟩
theorem Tryz.lays156:Go.Proofs.Lays.n156 Tryz.prog Tryz.lays156_ren:= {
 mixed:=by kernel_rfl
 f156:=Tryz.func123.trans (congrArg some (by kernel_rfl))
 f165:=Tryz.func136.trans (congrArg some (by kernel_rfl))
 f166:=Tryz.func137.trans (congrArg some (by kernel_rfl))
 f169:=Tryz.func138.trans (congrArg some (by kernel_rfl))
 f240:=Tryz.func161.trans (congrArg some (by kernel_rfl))
 f241:=Tryz.func162.trans (congrArg some (by kernel_rfl))
 f276:=Tryz.func185.trans (congrArg some (by kernel_rfl))
 f277:=Tryz.func186.trans (congrArg some (by kernel_rfl))
 t0:=Tryz.underlying0
 a0:=Tryz.isAgg0
 z0:=Tryz.sizeOf0
 v0:=Tryz.zeroValue0
 t3:=Tryz.underlying3
 a3:=Tryz.isAgg3
 z3:=Tryz.sizeOf3
 v3:=Tryz.zeroValue3
 t4:=Tryz.underlying4
 a4:=Tryz.isAgg4
 z4:=Tryz.sizeOf4
 v4:=Tryz.zeroValue4
 t9:=Tryz.underlying9
 a9:=Tryz.isAgg9
 z9:=Tryz.sizeOf9
 v9:=Tryz.zeroValue9
 t20:=Tryz.underlying20
 a20:=Tryz.isAgg20
 z20:=Tryz.sizeOf20
 v20:=Tryz.zeroValue20
 t31:=Tryz.underlying22
 a31:=Tryz.isAgg22
 z31:=Tryz.sizeOf22
 v31:=Tryz.zeroValue22
 t37:=Tryz.underlying156
 a37:=Tryz.isAgg156
 z37:=Tryz.sizeOf156
 v37:=Tryz.zeroValue156
 t70:=Tryz.underlying163
 a70:=Tryz.isAgg163
 z70:=Tryz.sizeOf163
 v70:=Tryz.zeroValue163
 t72:=Tryz.underlying165
 a72:=Tryz.isAgg165
 z72:=Tryz.sizeOf165
 v72:=Tryz.zeroValue165
 t75:=Tryz.underlying167
 a75:=Tryz.isAgg167
 z75:=Tryz.sizeOf167
 v75:=Tryz.zeroValue167
 t76:=Tryz.underlying168
 a76:=Tryz.isAgg168
 z76:=Tryz.sizeOf168
 v76:=Tryz.zeroValue168
 t127:=Tryz.underlying192
 a127:=Tryz.isAgg192
 z127:=Tryz.sizeOf192
 v127:=Tryz.zeroValue192
 t164:=Tryz.underlying212
 a164:=Tryz.isAgg212
 z164:=Tryz.sizeOf212
 v164:=Tryz.zeroValue212}
theorem Tryz.Builder_Extra_156:Builder.Extra Tryz.prog Tryz.lays156_ren:= {
 sizeBuilder:=by kernel_rfl
 liesBuilder:=by kernel_rfl
 t5:=Tryz.underlying5
 a5:=Tryz.isAgg5
 z5:=Tryz.sizeOf5
 v5:=Tryz.zeroValue5
 infoByte:=by kernel_rfl
 cellsByte:=by kernel_rfl
 sizeByte:=by kernel_rfl
 neB5:=by decide}
open Go.RowKit in
theorem Tryz.strings_Join_none (a:Option Addr)(c:Nat)(sep:ByteArray)(w:World):
 Calls Tryz.prog 123 #[.slice a 0 c,.string sep] w fun e w'=>e= .returned (.string ⟨#[]⟩)∧w'=w:=Any.strings_Join_none Tryz.lays156 Tryz.Builder_Extra_156 a c sep w
open Go.RowKit in
theorem Tryz.strings_Join (bk o c:Nat)(xs:List ByteArray)(sep:ByteArray)(w:World)(hcells: ∀(j:Nat) x,xs[j]?=some x→w.cell? ⟨bk,o+j,none⟩=some (.string x))(hbk:bk<w.heap.size)(hN:xs.length≤140737488355328)(hcap:xs.length≤c)(hlen:(Lib.join (xs.map (·.data.toList)) sep.data.toList).length≤140737488355328):
 Calls Tryz.prog 123 #[.slice (some ⟨bk,o,none⟩) xs.length c,.string sep] w fun e w'=>e= .returned (.string ⟨(Lib.join (xs.map (·.data.toList)) sep.data.toList).toArray⟩)∧Below w.heap.size w w':=Any.strings_Join Tryz.lays156 Tryz.Builder_Extra_156 bk o c xs sep w hcells hbk hN hcap hlen
def Tryz.lays137_ren:Go.Shelf.Ren:=⟨fun|137=>163|217=>187|266=>198|n=>n,fun|9=>9|5=>5|3=>3|n=>n,fun|n=>n⟩
theorem Tryz.lays137:Go.Proofs.Lays.n137 Tryz.prog Tryz.lays137_ren:= {
 mixed:=by kernel_rfl
 f137:=Tryz.func163.trans (congrArg some (by kernel_rfl))
 f217:=Tryz.func187.trans (congrArg some (by kernel_rfl))
 f266:=Tryz.func198.trans (congrArg some (by kernel_rfl))
 t3:=Tryz.underlying3
 a3:=Tryz.isAgg3
 z3:=Tryz.sizeOf3
 v3:=Tryz.zeroValue3
 t5:=Tryz.underlying5
 a5:=Tryz.isAgg5
 z5:=Tryz.sizeOf5
 v5:=Tryz.zeroValue5
 t9:=Tryz.underlying9
 a9:=Tryz.isAgg9
 z9:=Tryz.sizeOf9
 v9:=Tryz.zeroValue9}
open Go.RowKit in
theorem Tryz.strings_IndexByte (s:ByteArray)(c:Int)(w:World):
 Calls Tryz.prog 163 #[.string s,.int .u8 c] w fun e w'=>e= .returned (.int .i64 (Lib.indexByte s.data.toList c.toNat.toUInt8))∧w'=w:=Any.strings_IndexByte Tryz.lays137 s c w
def Tryz.lays189_ren:Go.Shelf.Ren:=⟨fun|189=>116|125=>128|257=>127|128=>155|129=>156|294=>146|295=>147|296=>148|297=>149|298=>150|299=>151|216=>152|300=>153|301=>154|328=>167|329=>168|330=>169|331=>170|332=>171|215=>172|343=>192|n=>n,fun|28=>67|3=>3|46=>154|0=>0|51=>188|53=>77|4=>4|183=>180|182=>179|131=>185|5=>5|9=>9|218=>197|222=>201|228=>223|229=>78|n=>n,fun|n=>n⟩
theorem Tryz.lays189:Go.Proofs.Lays.n189 Tryz.prog Tryz.lays189_ren:= {
 mixed:=by kernel_rfl
 f125:=Tryz.func128.trans (congrArg some (by kernel_rfl))
 f128:=Tryz.func155.trans (congrArg some (by kernel_rfl))
 f129:=Tryz.func156.trans (congrArg some (by kernel_rfl))
 f189:=Tryz.func116.trans (congrArg some (by kernel_rfl))
 f215:=Tryz.func172.trans (congrArg some (by kernel_rfl))
 f216:=Tryz.func152.trans (congrArg some (by kernel_rfl))
 f257:=Tryz.func127.trans (congrArg some (by kernel_rfl))
 f294:=Tryz.func146.trans (congrArg some (by kernel_rfl))
 f295:=Tryz.func147.trans (congrArg some (by kernel_rfl))
 f296:=Tryz.func148.trans (congrArg some (by kernel_rfl))
 f297:=Tryz.func149.trans (congrArg some (by kernel_rfl))
 f298:=Tryz.func150.trans (congrArg some (by kernel_rfl))
 f299:=Tryz.func151.trans (congrArg some (by kernel_rfl))
 f300:=Tryz.func153.trans (congrArg some (by kernel_rfl))
 f301:=Tryz.func154.trans (congrArg some (by kernel_rfl))
 f328:=Tryz.func167.trans (congrArg some (by kernel_rfl))
 f329:=Tryz.func168.trans (congrArg some (by kernel_rfl))
 f330:=Tryz.func169.trans (congrArg some (by kernel_rfl))
 f331:=Tryz.func170.trans (congrArg some (by kernel_rfl))
 f332:=Tryz.func171.trans (congrArg some (by kernel_rfl))
 f343:=Tryz.func192.trans (congrArg some (by kernel_rfl))
 t0:=Tryz.underlying0
 a0:=Tryz.isAgg0
 z0:=Tryz.sizeOf0
 v0:=Tryz.zeroValue0
 t3:=Tryz.underlying3
 a3:=Tryz.isAgg3
 z3:=Tryz.sizeOf3
 v3:=Tryz.zeroValue3
 t4:=Tryz.underlying4
 a4:=Tryz.isAgg4
 z4:=Tryz.sizeOf4
 v4:=Tryz.zeroValue4
 t5:=Tryz.underlying5
 a5:=Tryz.isAgg5
 z5:=Tryz.sizeOf5
 v5:=Tryz.zeroValue5
 t9:=Tryz.underlying9
 a9:=Tryz.isAgg9
 z9:=Tryz.sizeOf9
 v9:=Tryz.zeroValue9
 t28:=Tryz.underlying67
 a28:=Tryz.isAgg67
 z28:=Tryz.sizeOf67
 v28:=Tryz.zeroValue67
 t46:=Tryz.underlying154
 a46:=Tryz.isAgg154
 z46:=Tryz.sizeOf154
 v46:=Tryz.zeroValue154
 t51:=Tryz.underlying188
 a51:=Tryz.isAgg188
 z51:=Tryz.sizeOf188
 v51:=Tryz.zeroValue188
 t53:=Tryz.underlying77
 a53:=Tryz.isAgg77
 z53:=Tryz.sizeOf77
 v53:=Tryz.zeroValue77
 t131:=Tryz.underlying185
 a131:=Tryz.isAgg185
 z131:=Tryz.sizeOf185
 v131:=Tryz.zeroValue185
 t182:=Tryz.underlying179
 a182:=Tryz.isAgg179
 z182:=Tryz.sizeOf179
 v182:=Tryz.zeroValue179
 t183:=Tryz.underlying180
 a183:=Tryz.isAgg180
 z183:=Tryz.sizeOf180
 v183:=Tryz.zeroValue180
 t218:=Tryz.underlying197
 a218:=Tryz.isAgg197
 z218:=Tryz.sizeOf197
 v218:=Tryz.zeroValue197
 t222:=Tryz.underlying201
 a222:=Tryz.isAgg201
 z222:=Tryz.sizeOf201
 v222:=Tryz.zeroValue201
 t228:=Tryz.underlying223
 a228:=Tryz.isAgg223
 z228:=Tryz.sizeOf223
 v228:=Tryz.zeroValue223
 t229:=Tryz.underlying78
 a229:=Tryz.isAgg78
 z229:=Tryz.sizeOf78
 v229:=Tryz.zeroValue78}
open Go.Sort Go.RowKit in
theorem Tryz.slices_Sort_int (blk off cap:Nat)(zs:List Int)(w:World)(hH:Holds (Value.int .i64) w blk off zs.toArray)(hblk:blk<w.heap.size)(hsz:zs.length<4611686018427387904):
 Calls Tryz.prog 116 #[.slice (some ⟨blk,off,none⟩) zs.length cap] w fun e w'=>
  e= .returned (.tuple #[])∧ ∃n os,w'=grow (putRow (Value.int .i64) (Sort.ahead w n) blk off (zs.mergeSort fun x y=>decide (x≤y)).toArray) os:=Any.slices_Sort_int Tryz.lays189 blk off cap zs w hH hblk hsz
def Tryz.lays190_ren:Go.Shelf.Ren:=⟨fun|190=>135|125=>128|258=>160|128=>155|129=>156|302=>176|303=>177|304=>178|305=>179|306=>180|307=>181|308=>182|309=>183|310=>184|333=>194|329=>168|330=>169|334=>195|335=>196|336=>197|344=>201|n=>n,fun|31=>22|9=>9|3=>3|46=>154|0=>0|51=>188|53=>77|4=>4|183=>180|182=>179|131=>185|5=>5|218=>197|222=>201|228=>223|229=>78|n=>n,fun|n=>n⟩
theorem Tryz.lays190:Go.Proofs.Lays.n190 Tryz.prog Tryz.lays190_ren:= {
 mixed:=by kernel_rfl
 f125:=Tryz.func128.trans (congrArg some (by kernel_rfl))
 f128:=Tryz.func155.trans (congrArg some (by kernel_rfl))
 f129:=Tryz.func156.trans (congrArg some (by kernel_rfl))
 f190:=Tryz.func135.trans (congrArg some (by kernel_rfl))
 f258:=Tryz.func160.trans (congrArg some (by kernel_rfl))
 f302:=Tryz.func176.trans (congrArg some (by kernel_rfl))
 f303:=Tryz.func177.trans (congrArg some (by kernel_rfl))
 f304:=Tryz.func178.trans (congrArg some (by kernel_rfl))
 f305:=Tryz.func179.trans (congrArg some (by kernel_rfl))
 f306:=Tryz.func180.trans (congrArg some (by kernel_rfl))
 f307:=Tryz.func181.trans (congrArg some (by kernel_rfl))
 f308:=Tryz.func182.trans (congrArg some (by kernel_rfl))
 f309:=Tryz.func183.trans (congrArg some (by kernel_rfl))
 f310:=Tryz.func184.trans (congrArg some (by kernel_rfl))
 f329:=Tryz.func168.trans (congrArg some (by kernel_rfl))
 f330:=Tryz.func169.trans (congrArg some (by kernel_rfl))
 f333:=Tryz.func194.trans (congrArg some (by kernel_rfl))
 f334:=Tryz.func195.trans (congrArg some (by kernel_rfl))
 f335:=Tryz.func196.trans (congrArg some (by kernel_rfl))
 f336:=Tryz.func197.trans (congrArg some (by kernel_rfl))
 f344:=Tryz.func201.trans (congrArg some (by kernel_rfl))
 t0:=Tryz.underlying0
 a0:=Tryz.isAgg0
 z0:=Tryz.sizeOf0
 v0:=Tryz.zeroValue0
 t3:=Tryz.underlying3
 a3:=Tryz.isAgg3
 z3:=Tryz.sizeOf3
 v3:=Tryz.zeroValue3
 t4:=Tryz.underlying4
 a4:=Tryz.isAgg4
 z4:=Tryz.sizeOf4
 v4:=Tryz.zeroValue4
 t5:=Tryz.underlying5
 a5:=Tryz.isAgg5
 z5:=Tryz.sizeOf5
 v5:=Tryz.zeroValue5
 t9:=Tryz.underlying9
 a9:=Tryz.isAgg9
 z9:=Tryz.sizeOf9
 v9:=Tryz.zeroValue9
 t31:=Tryz.underlying22
 a31:=Tryz.isAgg22
 z31:=Tryz.sizeOf22
 v31:=Tryz.zeroValue22
 t46:=Tryz.underlying154
 a46:=Tryz.isAgg154
 z46:=Tryz.sizeOf154
 v46:=Tryz.zeroValue154
 t51:=Tryz.underlying188
 a51:=Tryz.isAgg188
 z51:=Tryz.sizeOf188
 v51:=Tryz.zeroValue188
 t53:=Tryz.underlying77
 a53:=Tryz.isAgg77
 z53:=Tryz.sizeOf77
 v53:=Tryz.zeroValue77
 t131:=Tryz.underlying185
 a131:=Tryz.isAgg185
 z131:=Tryz.sizeOf185
 v131:=Tryz.zeroValue185
 t182:=Tryz.underlying179
 a182:=Tryz.isAgg179
 z182:=Tryz.sizeOf179
 v182:=Tryz.zeroValue179
 t183:=Tryz.underlying180
 a183:=Tryz.isAgg180
 z183:=Tryz.sizeOf180
 v183:=Tryz.zeroValue180
 t218:=Tryz.underlying197
 a218:=Tryz.isAgg197
 z218:=Tryz.sizeOf197
 v218:=Tryz.zeroValue197
 t222:=Tryz.underlying201
 a222:=Tryz.isAgg201
 z222:=Tryz.sizeOf201
 v222:=Tryz.zeroValue201
 t228:=Tryz.underlying223
 a228:=Tryz.isAgg223
 z228:=Tryz.sizeOf223
 v228:=Tryz.zeroValue223
 t229:=Tryz.underlying78
 a229:=Tryz.isAgg78
 z229:=Tryz.sizeOf78
 v229:=Tryz.zeroValue78}
open Go.Sort Go.RowKit in
theorem Tryz.slices_Sort_string (blk off cap:Nat)(ss:List (List UInt8))(w:World)(hH:Holds encStr w blk off ss.toArray)(hblk:blk<w.heap.size)(hsz:ss.length<4611686018427387904):
 Calls Tryz.prog 135 #[.slice (some ⟨blk,off,none⟩) ss.length cap] w fun e w'=>
  e= .returned (.tuple #[])∧ ∃n os,w'=grow (putRow encStr (Sort.ahead w n) blk off (ss.mergeSort fun x y=>decide (x≤y)).toArray) os:=Any.slices_Sort_string Tryz.lays190 blk off cap ss w hH hblk hsz
open Go.RowKit Go.Sort in
theorem Tryz.slices_Sort_string_none (p:Option Addr)(cap:Nat)(w:World):
 Calls Tryz.prog 135 #[.slice p 0 cap] w fun e w'=>e= .returned (.tuple #[])∧w'=w:=Any.slices_Sort_string_none Tryz.lays190 p cap w
end Go.Proofs
