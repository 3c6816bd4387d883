/-
  Part 1 of the proof.
-/
import Derived.Shelf.Strings.Builder1
import Derived.Shelf.Strings.Builder2
import Derived.Shelf.Strings.OnBuilder
import Derived.Shelf.Small.Bits
import Derived.Shelf.Small.Strs
import Derived.Shelf.Small.Wraps
import Derived.Shelf.Strings.BuilderF
import Derived.Shelf.Strings.BuilderK
import Derived.Shelf.Strconv.Itoa0
import Derived.Shelf.Strings.Search1
import Derived.Shelf.Strings.Search2
import Derived.Shelf.Strings.Search3
import Derived.Shelf.Strings.Count
import Derived.Shelf.LaysM
import Derived.Shelf.Strings.Shaped
import Derived.Shelf.Strings.Prefix
import Derived.Shelf.Strings.Split
import Derived.Shelf.Strings.SplitShaped
import Derived.Shelf.Unicode.DecodeSlow
import Derived.Shelf.Slices.Equal
import Derived.Ground.Names2Prog
import Derived.Shelf.Slices.Clone
import Derived.Shelf.Slices.Empties2
import Derived.Test.YtelkmeiepliecaaGreatDoorProg
set_option linter.unusedSimpArgs false
set_option linter.unusedVariables false
set_option maxHeartbeats 16000000
namespace Go.Proofs
open Go.Shelf
open Go.RowKit in
open Go.RowKit in
open Go.RowKit in
open Go.RowKit in
open Go.RowKit in
def Tryz.lays156_ren:Go.Shelf.Ren:=⟨fun|156=>98|165=>130|166=>131|169=>132|240=>149|241=>150|276=>168|277=>169|n=>n,fun|31=>25|9=>9|3=>3|4=>4|0=>0|20=>20|72=>210|76=>214|70=>207|37=>208|75=>213|127=>226|164=>242|5=>5|80=>216|n=>n,fun|n=>n⟩
theorem Tryz.lays156:Go.Proofs.Lays.n156 Tryz.prog Tryz.lays156_ren:={
 mixed:=by kernel_rfl
 f156:=Tryz.func98.trans (congrArg some (by kernel_rfl))
 f165:=Tryz.func130.trans (congrArg some (by kernel_rfl))
 f166:=Tryz.func131.trans (congrArg some (by kernel_rfl))
 f169:=Tryz.func132.trans (congrArg some (by kernel_rfl))
 f240:=Tryz.func149.trans (congrArg some (by kernel_rfl))
 f241:=Tryz.func150.trans (congrArg some (by kernel_rfl))
 f276:=Tryz.func168.trans (congrArg some (by kernel_rfl))
 f277:=Tryz.func169.trans (congrArg some (by kernel_rfl))
 t0:=Tryz.underlying0
 a0:=Tryz.isAgg0
 z0:=Tryz.sizeOf0
 v0:=Tryz.zeroValue0
 t3:=Tryz.underlying3
 a3:=Tryz.isAgg3
 z3:=Tryz.sizeOf3
 v3:=Tryz.zeroValue3
 t4:=Tryz.underlying4
 a4:=Tryz.isAgg4
 z4:=Tryz.sizeOf4
 v4:=Tryz.zeroValue4
 t9:=Tryz.underlying9
 a9:=Tryz.isAgg9
 z9:=Tryz.sizeOf9
 v9:=Tryz.zeroValue9
 t20:=Tryz.underlying20
 a20:=Tryz.isAgg20
 z20:=Tryz.sizeOf20
 v20:=Tryz.zeroValue20
 t31:=Tryz.underlying25
 a31:=Tryz.isAgg25
 z31:=Tryz.sizeOf25
 v31:=Tryz.zeroValue25
 t37:=Tryz.underlying208
 a37:=Tryz.isAgg208
 z37:=Tryz.sizeOf208
 v37:=Tryz.zeroValue208
 t70:=Tryz.underlying207
 a70:=Tryz.isAgg207
 z70:=Tryz.sizeOf207
 v70:=Tryz.zeroValue207
 t72:=Tryz.underlying210
 a72:=Tryz.isAgg210
 z72:=Tryz.sizeOf210
 v72:=Tryz.zeroValue210
 t75:=Tryz.underlying213
 a75:=Tryz.isAgg213
 z75:=Tryz.sizeOf213
 v75:=Tryz.zeroValue213
 t76:=Tryz.underlying214
 a76:=Tryz.isAgg214
 z76:=Tryz.sizeOf214
 v76:=Tryz.zeroValue214
 t127:=Tryz.underlying226
 a127:=Tryz.isAgg226
 z127:=Tryz.sizeOf226
 v127:=Tryz.zeroValue226
 t164:=Tryz.underlying242
 a164:=Tryz.isAgg242
 z164:=Tryz.sizeOf242
 v164:=Tryz.zeroValue242 }
theorem Tryz.Builder_Extra_156:Builder.Extra Tryz.prog Tryz.lays156_ren:={
 sizeBuilder:=by kernel_rfl
 liesBuilder:=by kernel_rfl
 t5:=Tryz.underlying5
 a5:=Tryz.isAgg5
 z5:=Tryz.sizeOf5
 v5:=Tryz.zeroValue5
 infoByte:=by kernel_rfl
 cellsByte:=by kernel_rfl
 sizeByte:=by kernel_rfl
 neB5:=by decide }
open Go.RowKit in
theorem Tryz.strings_Join_none (a:Option Addr) (c:Nat) (sep:ByteArray) (w:World) :
 Calls Tryz.prog 98 #[.slice a 0 c,.string sep] w fun e w'=>e=.returned (.string ⟨#[]⟩)∧w'=w:=Any.strings_Join_none Tryz.lays156 Tryz.Builder_Extra_156 a c sep w
open Go.RowKit in
theorem Tryz.strings_Join (bk o c:Nat) (xs:List ByteArray) (sep:ByteArray) (w:World) (hcells:∀ (j:Nat) x,xs[j]? = some x→w.cell? ⟨bk,o+j,none⟩=some (.string x)) (hbk:bk<w.heap.size) (hN:xs.length≤140737488355328) (hcap:xs.length≤c) (hlen:(Lib.join (xs.map (·.data.toList)) sep.data.toList).length≤140737488355328) :
 Calls Tryz.prog 98 #[.slice (some ⟨bk,o,none⟩) xs.length c,.string sep] w fun e w'=>e=.returned (.string ⟨(Lib.join (xs.map (·.data.toList)) sep.data.toList).toArray⟩)∧Below w.heap.size w w':=Any.strings_Join Tryz.lays156 Tryz.Builder_Extra_156 bk o c xs sep w hcells hbk hN hcap hlen
def Tryz.lays213_ren:Go.Shelf.Ren:=⟨fun|213=>136|265=>161|n=>n,fun|9=>9|3=>3|n=>n,fun|n=>n⟩
open Go.RowKit in
def Tryz.lays106_ren:Go.Shelf.Ren:=⟨fun|106=>107|213=>136|265=>161|n=>n,fun|9=>9|3=>3|n=>n,fun|n=>n⟩
theorem Tryz.lays106:Go.Proofs.Lays.n106 Tryz.prog Tryz.lays106_ren:={
 mixed:=by kernel_rfl
 f106:=Tryz.func107.trans (congrArg some (by kernel_rfl))
 f213:=Tryz.func136.trans (congrArg some (by kernel_rfl))
 f265:=Tryz.func161.trans (congrArg some (by kernel_rfl))
 t3:=Tryz.underlying3
 a3:=Tryz.isAgg3
 z3:=Tryz.sizeOf3
 v3:=Tryz.zeroValue3
 t9:=Tryz.underlying9
 a9:=Tryz.isAgg9
 z9:=Tryz.sizeOf9
 v9:=Tryz.zeroValue9 }
open Go.RowKit in
theorem Tryz.strings_Compare (a b:ByteArray) (w:World) :
 Calls Tryz.prog 107 #[.string a,.string b] w fun e w'=>e=.returned (.int .i64 (Lib.compareBytes a.data.toList b.data.toList))∧w'=w:=Any.strings_Compare Tryz.lays106 a b w
def Tryz.lays210_ren:Go.Shelf.Ren:=⟨fun|210=>125|206=>133|n=>n,fun|9=>9|4=>4|3=>3|n=>n,fun|n=>n⟩
open Go.RowKit in
def Tryz.lays103_ren:Go.Shelf.Ren:=⟨fun|103=>91|210=>125|206=>133|n=>n,fun|9=>9|4=>4|24=>38|3=>3|n=>n,fun|n=>n⟩
theorem Tryz.lays103:Go.Proofs.Lays.n103 Tryz.prog Tryz.lays103_ren:={
 mixed:=by kernel_rfl
 f103:=Tryz.func91.trans (congrArg some (by kernel_rfl))
 f206:=Tryz.func133.trans (congrArg some (by kernel_rfl))
 f210:=Tryz.func125.trans (congrArg some (by kernel_rfl))
 t3:=Tryz.underlying3
 a3:=Tryz.isAgg3
 z3:=Tryz.sizeOf3
 v3:=Tryz.zeroValue3
 t4:=Tryz.underlying4
 a4:=Tryz.isAgg4
 z4:=Tryz.sizeOf4
 v4:=Tryz.zeroValue4
 t9:=Tryz.underlying9
 a9:=Tryz.isAgg9
 z9:=Tryz.sizeOf9
 v9:=Tryz.zeroValue9
 t24:=Tryz.underlying38
 a24:=Tryz.isAgg38
 z24:=Tryz.sizeOf38
 v24:=Tryz.zeroValue38 }
open Go.RowKit in
theorem Tryz.strings_CutPrefix (s p:ByteArray) (w:World) :
 Calls Tryz.prog 91 #[.string s,.string p] w fun e w'=>e=.returned (.tuple #[.string ⟨(Lib.trimPrefix s.data.toList p.data.toList).toArray⟩,.bool (Lib.hasPrefix s.data.toList p.data.toList)])∧w'=w:=Any.strings_CutPrefix Tryz.lays103 s p w
open Go.RowKit in
def Tryz.lays104_ren:Go.Shelf.Ren:=⟨fun|104=>129|211=>148|207=>163|n=>n,fun|9=>9|4=>4|24=>38|3=>3|n=>n,fun|n=>n⟩
theorem Tryz.lays104:Go.Proofs.Lays.n104 Tryz.prog Tryz.lays104_ren:={
 mixed:=by kernel_rfl
 f104:=Tryz.func129.trans (congrArg some (by kernel_rfl))
 f207:=Tryz.func163.trans (congrArg some (by kernel_rfl))
 f211:=Tryz.func148.trans (congrArg some (by kernel_rfl))
 t3:=Tryz.underlying3
 a3:=Tryz.isAgg3
 z3:=Tryz.sizeOf3
 v3:=Tryz.zeroValue3
 t4:=Tryz.underlying4
 a4:=Tryz.isAgg4
 z4:=Tryz.sizeOf4
 v4:=Tryz.zeroValue4
 t9:=Tryz.underlying9
 a9:=Tryz.isAgg9
 z9:=Tryz.sizeOf9
 v9:=Tryz.zeroValue9
 t24:=Tryz.underlying38
 a24:=Tryz.isAgg38
 z24:=Tryz.sizeOf38
 v24:=Tryz.zeroValue38 }
open Go.RowKit in
theorem Tryz.strings_CutSuffix (s p:ByteArray) (w:World) (hs:s.size≤9223372036854775807) :
 Calls Tryz.prog 129 #[.string s,.string p] w fun e w'=>e=.returned (.tuple #[.string ⟨(Lib.trimSuffix s.data.toList p.data.toList).toArray⟩,.bool (Lib.hasSuffix s.data.toList p.data.toList)])∧w'=w:=Any.strings_CutSuffix Tryz.lays104 s p w hs
open Go.RowKit in
open Go.RowKit in
open Go.RowKit in
open Go.RowKit in
open Go.RowKit in
open Go.RowKit in
open Go.RowKit Go.Lib in
open Go.RowKit Go.Lib in
open Go.RowKit Go.Lib in
open Go.RowKit Go.Lib in
open Go.RowKit Go.Lib in
open Go.RowKit Go.Lib in
open Go.RowKit Go.Lib in
open Go.RowKit Go.Lib in
open Go.RowKit Go.Lib in
open Go.RowKit Go.Lib in
open Go.RowKit Go.Lib in
open Go.RowKit Go.Lib in
open Go.RowKit Go.Lib in
open Go.RowKit Go.Lib in
def Tryz.lays99_ren:Go.Shelf.Ren:=⟨fun|99=>103|206=>133|n=>n,fun|9=>9|4=>4|3=>3|n=>n,fun|n=>n⟩
theorem Tryz.lays99:Go.Proofs.Lays.n99 Tryz.prog Tryz.lays99_ren:={
 mixed:=by kernel_rfl
 f99:=Tryz.func103.trans (congrArg some (by kernel_rfl))
 f206:=Tryz.func133.trans (congrArg some (by kernel_rfl))
 t3:=Tryz.underlying3
 a3:=Tryz.isAgg3
 z3:=Tryz.sizeOf3
 v3:=Tryz.zeroValue3
 t4:=Tryz.underlying4
 a4:=Tryz.isAgg4
 z4:=Tryz.sizeOf4
 v4:=Tryz.zeroValue4
 t9:=Tryz.underlying9
 a9:=Tryz.isAgg9
 z9:=Tryz.sizeOf9
 v9:=Tryz.zeroValue9 }
open Go.RowKit Go.Lib in
theorem Tryz.strings_HasPrefix (s p:ByteArray) (w:World) :
 Calls Tryz.prog 103 #[.string s,.string p] w fun e w'=>e=.returned (.bool (Lib.hasPrefix s.data.toList p.data.toList))∧w'=w:=Any.strings_HasPrefix Tryz.lays99 s p w
open Go.RowKit Go.Lib in
def Tryz.lays100_ren:Go.Shelf.Ren:=⟨fun|100=>143|207=>163|n=>n,fun|9=>9|4=>4|3=>3|n=>n,fun|n=>n⟩
theorem Tryz.lays100:Go.Proofs.Lays.n100 Tryz.prog Tryz.lays100_ren:={
 mixed:=by kernel_rfl
 f100:=Tryz.func143.trans (congrArg some (by kernel_rfl))
 f207:=Tryz.func163.trans (congrArg some (by kernel_rfl))
 t3:=Tryz.underlying3
 a3:=Tryz.isAgg3
 z3:=Tryz.sizeOf3
 v3:=Tryz.zeroValue3
 t4:=Tryz.underlying4
 a4:=Tryz.isAgg4
 z4:=Tryz.sizeOf4
 v4:=Tryz.zeroValue4
 t9:=Tryz.underlying9
 a9:=Tryz.isAgg9
 z9:=Tryz.sizeOf9
 v9:=Tryz.zeroValue9 }
open Go.RowKit Go.Lib in
theorem Tryz.strings_HasSuffix (s p:ByteArray) (w:World) (hs:s.size≤9223372036854775807) :
 Calls Tryz.prog 143 #[.string s,.string p] w fun e w'=>e=.returned (.bool (Lib.hasSuffix s.data.toList p.data.toList))∧w'=w:=Any.strings_HasSuffix Tryz.lays100 s p w hs
open Go.RowKit Go.Lib in
def Tryz.lays102_ren:Go.Shelf.Ren:=⟨fun|102=>123|209=>144|207=>163|n=>n,fun|9=>9|4=>4|3=>3|n=>n,fun|n=>n⟩
theorem Tryz.lays102:Go.Proofs.Lays.n102 Tryz.prog Tryz.lays102_ren:={
 mixed:=by kernel_rfl
 f102:=Tryz.func123.trans (congrArg some (by kernel_rfl))
 f207:=Tryz.func163.trans (congrArg some (by kernel_rfl))
 f209:=Tryz.func144.trans (congrArg some (by kernel_rfl))
 t3:=Tryz.underlying3
 a3:=Tryz.isAgg3
 z3:=Tryz.sizeOf3
 v3:=Tryz.zeroValue3
 t4:=Tryz.underlying4
 a4:=Tryz.isAgg4
 z4:=Tryz.sizeOf4
 v4:=Tryz.zeroValue4
 t9:=Tryz.underlying9
 a9:=Tryz.isAgg9
 z9:=Tryz.sizeOf9
 v9:=Tryz.zeroValue9 }
open Go.RowKit Go.Lib in
theorem Tryz.strings_TrimSuffix (s p:ByteArray) (w:World) (hs:s.size≤9223372036854775807) :
 Calls Tryz.prog 123 #[.string s,.string p] w fun e w'=>e=.returned (.string ⟨(Lib.trimSuffix s.data.toList p.data.toList).toArray⟩)∧w'=w:=Any.strings_TrimSuffix Tryz.lays102 s p w hs
open Go.RowKit Go.Lib in
def Tryz.lays221_ren:Go.Shelf.Ren:=⟨fun|221=>126|268=>145|138=>146|143=>147|195=>164|197=>165|218=>166|219=>167|260=>175|217=>176|225=>177|224=>178|267=>179|266=>181|314=>182|n=>n,fun|9=>9|3=>3|31=>25|4=>4|0=>0|105=>239|21=>21|5=>5|46=>219|119=>254|139=>257|138=>256|146=>258|51=>235|n=>n,fun|1=>0|3=>1|4=>2|n=>n⟩
open Go.RowKit Go.Lib in
def Tryz.lays146_ren:Go.Shelf.Ren:=⟨fun|146=>92|221=>126|268=>145|138=>146|143=>147|195=>164|197=>165|218=>166|219=>167|260=>175|217=>176|225=>177|224=>178|267=>179|266=>181|314=>182|n=>n,fun|9=>9|31=>25|3=>3|4=>4|0=>0|105=>239|21=>21|5=>5|46=>219|119=>254|139=>257|138=>256|146=>258|51=>235|n=>n,fun|1=>0|3=>1|4=>2|n=>n⟩
theorem Tryz.lays146:Go.Proofs.Lays.n146 Tryz.prog Tryz.lays146_ren:={
 mixed:=by kernel_rfl
 f138:=Tryz.func146.trans (congrArg some (by kernel_rfl))
 f143:=Tryz.func147.trans (congrArg some (by kernel_rfl))
 f146:=Tryz.func92.trans (congrArg some (by kernel_rfl))
 f195:=Tryz.func164.trans (congrArg some (by kernel_rfl))
 f197:=Tryz.func165.trans (congrArg some (by kernel_rfl))
 f217:=Tryz.func176.trans (congrArg some (by kernel_rfl))
 f218:=Tryz.func166.trans (congrArg some (by kernel_rfl))
 f219:=Tryz.func167.trans (congrArg some (by kernel_rfl))
 f221:=Tryz.func126.trans (congrArg some (by kernel_rfl))
 f224:=Tryz.func178.trans (congrArg some (by kernel_rfl))
 f225:=Tryz.func177.trans (congrArg some (by kernel_rfl))
 f260:=Tryz.func175.trans (congrArg some (by kernel_rfl))
 f266:=Tryz.func181.trans (congrArg some (by kernel_rfl))
 f267:=Tryz.func179.trans (congrArg some (by kernel_rfl))
 f268:=Tryz.func145.trans (congrArg some (by kernel_rfl))
 f314:=Tryz.func182.trans (congrArg some (by kernel_rfl))
 t0:=Tryz.underlying0
 a0:=Tryz.isAgg0
 z0:=Tryz.sizeOf0
 v0:=Tryz.zeroValue0
 t3:=Tryz.underlying3
 a3:=Tryz.isAgg3
 z3:=Tryz.sizeOf3
 v3:=Tryz.zeroValue3
 t4:=Tryz.underlying4
 a4:=Tryz.isAgg4
 z4:=Tryz.sizeOf4
 v4:=Tryz.zeroValue4
 t5:=Tryz.underlying5
 a5:=Tryz.isAgg5
 z5:=Tryz.sizeOf5
 v5:=Tryz.zeroValue5
 t9:=Tryz.underlying9
 a9:=Tryz.isAgg9
 z9:=Tryz.sizeOf9
 v9:=Tryz.zeroValue9
 t21:=Tryz.underlying21
 a21:=Tryz.isAgg21
 z21:=Tryz.sizeOf21
 v21:=Tryz.zeroValue21
 t31:=Tryz.underlying25
 a31:=Tryz.isAgg25
 z31:=Tryz.sizeOf25
 v31:=Tryz.zeroValue25
 t46:=Tryz.underlying219
 a46:=Tryz.isAgg219
 z46:=Tryz.sizeOf219
 v46:=Tryz.zeroValue219
 t51:=Tryz.underlying235
 a51:=Tryz.isAgg235
 z51:=Tryz.sizeOf235
 v51:=Tryz.zeroValue235
 t105:=Tryz.underlying239
 a105:=Tryz.isAgg239
 z105:=Tryz.sizeOf239
 v105:=Tryz.zeroValue239
 t119:=Tryz.underlying254
 a119:=Tryz.isAgg254
 z119:=Tryz.sizeOf254
 t138:=Tryz.underlying256
 a138:=Tryz.isAgg256
 z138:=Tryz.sizeOf256
 v138:=Tryz.zeroValue256
 t139:=Tryz.underlying257
 a139:=Tryz.isAgg257
 z139:=Tryz.sizeOf257
 v139:=Tryz.zeroValue257
 t146:=Tryz.underlying258
 a146:=Tryz.isAgg258
 z146:=Tryz.sizeOf258
 v146:=Tryz.zeroValue258
 g1:=by kernel_rfl
 g3:=by kernel_rfl
 g4:=by kernel_rfl }
open Go.RowKit Go.Lib in
theorem Tryz.strings_Split (s sep:ByteArray) (m:Int) (w:World) (hs:s.size<4294967281) (hm:w.cell? ⟨0,0,none⟩=some (.int .i64 m)) (h1:1≤sep.size) :
 Calls Tryz.prog 92 #[.string s,.string sep] w fun e w' =>
  e=.returned (.slice (some ⟨w.heap.size,0,none⟩) (Lib.countB s sep+1) (Lib.countB s sep+1))∧w'=w.alloc (.cells ((Lib.splitB sep 0 (Lib.countB s sep) s).map Value.string).toArray 9):=Any.strings_Split Tryz.lays146 (by kernel_rfl) s sep m w hs hm h1
def Tryz.laysM146_ren:Go.Shelf.Ren:=⟨fun|146=>92|221=>126|268=>145|138=>146|143=>147|195=>164|197=>165|218=>166|219=>167|260=>175|217=>176|225=>177|224=>178|267=>179|266=>181|314=>182|n=>n,fun|9=>9|31=>25|3=>3|4=>4|0=>0|105=>239|21=>21|5=>5|46=>219|119=>254|139=>257|138=>256|146=>258|51=>235|n=>n,fun|1=>0|3=>1|4=>2|n=>n⟩
theorem Tryz.laysM146:Go.Proofs.LaysM.n146 Tryz.prog Tryz.laysM146_ren:={
 mixed:=by kernel_rfl
 f138:=Tryz.func146.trans (congrArg some (by kernel_rfl))
 f143:=Tryz.func147.trans (congrArg some (by kernel_rfl))
 f146:=Tryz.func92.trans (congrArg some (by kernel_rfl))
 f195:=Tryz.func164.trans (congrArg some (by kernel_rfl))
 f197:=Tryz.func165.trans (congrArg some (by kernel_rfl))
 f217:=Tryz.func176.trans (congrArg some (by kernel_rfl))
 f218:=Tryz.func166.trans (congrArg some (by kernel_rfl))
 f219:=Tryz.func167.trans (congrArg some (by kernel_rfl))
 f221:=Tryz.func126.trans (congrArg some (by kernel_rfl))
 f224:=Tryz.func178.trans (congrArg some (by kernel_rfl))
 f225:=Tryz.func177.trans (congrArg some (by kernel_rfl))
 f260:=Tryz.func175.trans (congrArg some (by kernel_rfl))
 f266:=Tryz.func181.trans (congrArg some (by kernel_rfl))
 f267:=Tryz.func179.trans (congrArg some (by kernel_rfl))
 f268:=Tryz.func145.trans (congrArg some (by kernel_rfl))
 f314:=Tryz.func182.trans (congrArg some (by kernel_rfl))
 t0:=Tryz.underlying0
 a0:=Tryz.isAgg0
 z0:=Tryz.sizeOf0
 v0:=Tryz.zeroValue0
 t3:=Tryz.underlying3
 a3:=Tryz.isAgg3
 z3:=Tryz.sizeOf3
 v3:=Tryz.zeroValue3
 t4:=Tryz.underlying4
 a4:=Tryz.isAgg4
 z4:=Tryz.sizeOf4
 v4:=Tryz.zeroValue4
 t5:=Tryz.underlying5
 a5:=Tryz.isAgg5
 z5:=Tryz.sizeOf5
 v5:=Tryz.zeroValue5
 t9:=Tryz.underlying9
 a9:=Tryz.isAgg9
 z9:=Tryz.sizeOf9
 v9:=Tryz.zeroValue9
 t21:=Tryz.underlying21
 a21:=Tryz.isAgg21
 z21:=Tryz.sizeOf21
 v21:=Tryz.zeroValue21
 t31:=Tryz.underlying25
 a31:=Tryz.isAgg25
 z31:=Tryz.sizeOf25
 v31:=Tryz.zeroValue25
 t46:=Tryz.underlying219
 a46:=Tryz.isAgg219
 z46:=Tryz.sizeOf219
 v46:=Tryz.zeroValue219
 t51:=Tryz.underlying235
 a51:=Tryz.isAgg235
 z51:=Tryz.sizeOf235
 v51:=Tryz.zeroValue235
 t105:=Tryz.underlying239
 a105:=Tryz.isAgg239
 z105:=Tryz.sizeOf239
 v105:=Tryz.zeroValue239
 t119:=Tryz.underlying254
 a119:=Tryz.isAgg254
 z119:=Tryz.sizeOf254
 t138:=Tryz.underlying256
 a138:=Tryz.isAgg256
 z138:=Tryz.sizeOf256
 v138:=Tryz.zeroValue256
 t139:=Tryz.underlying257
 a139:=Tryz.isAgg257
 z139:=Tryz.sizeOf257
 v139:=Tryz.zeroValue257
 t146:=Tryz.underlying258
 a146:=Tryz.isAgg258
 z146:=Tryz.sizeOf258
 v146:=Tryz.zeroValue258
 g1:=by kernel_rfl
 g3:=by kernel_rfl
 g4:=by kernel_rfl
 i0:=by kernel_rfl
 i3:=by kernel_rfl
 i4:=by kernel_rfl
 i5:=by kernel_rfl
 i9:=by kernel_rfl
 i21:=by kernel_rfl
 i31:=by kernel_rfl
 i46:=by kernel_rfl
 i51:=by kernel_rfl
 i105:=by kernel_rfl
 i138:=by kernel_rfl
 i139:=by kernel_rfl
 i146:=by kernel_rfl
 m1:=by kernel_rfl
 s1_3:=fun w h=>Go.Proofs.cell_of_shapedOpen_int (zero:=#[.int .i64 0]) (t:=3) h (of_decide_eq_true (by kernel_rfl)) (by kernel_rfl) rfl (by kernel_rfl) (by kernel_rfl) Tryz.underlying3
 m3:=by kernel_rfl
 m4:=by kernel_rfl }
open Go.RowKit Go.Lib in
open Go.RowKit Go.Lib in
def Tryz.lays193_ren:Go.Shelf.Ren:=⟨fun|193=>65|n=>n,fun|31=>25|9=>9|4=>4|3=>3|0=>0|n=>n,fun|n=>n⟩
theorem Tryz.lays193:Go.Proofs.Lays.n193 Tryz.prog Tryz.lays193_ren:={
 mixed:=by kernel_rfl
 f193:=Tryz.func65.trans (congrArg some (by kernel_rfl))
 t0:=Tryz.underlying0
 a0:=Tryz.isAgg0
 z0:=Tryz.sizeOf0
 v0:=Tryz.zeroValue0
 t3:=Tryz.underlying3
 a3:=Tryz.isAgg3
 z3:=Tryz.sizeOf3
 v3:=Tryz.zeroValue3
 t4:=Tryz.underlying4
 a4:=Tryz.isAgg4
 z4:=Tryz.sizeOf4
 v4:=Tryz.zeroValue4
 t9:=Tryz.underlying9
 a9:=Tryz.isAgg9
 z9:=Tryz.sizeOf9
 v9:=Tryz.zeroValue9
 t31:=Tryz.underlying25
 a31:=Tryz.isAgg25
 z31:=Tryz.sizeOf25
 v31:=Tryz.zeroValue25 }
open Go.RowKit Go.Lib in
theorem Tryz.slices_Equal_string (b1 o1 n c b2 o2 m d:Nat) (xs ys:List ByteArray) (w:World) (hx:n≤xs.length) (hy:m≤ys.length) (hbig:n≤9223372036854775807) (hbig2:m≤9223372036854775807) (hc1:∀ j,j<xs.length→w.cell? ⟨b1,o1+j,none⟩=some (.string (xs.getD j ByteArray.empty))) (hc2:∀ j,j<ys.length→w.cell? ⟨b2,o2+j,none⟩=some (.string (ys.getD j ByteArray.empty))) :
 Calls Tryz.prog 65 #[.slice (some ⟨b1,o1,none⟩) n c,.slice (some ⟨b2,o2,none⟩) m d] w fun e w'=>e=.returned (.bool (decide (xs.take n=ys.take m)))∧∃ q,w'=w.drewN q:=Any.slices_Equal_string Tryz.lays193 b1 o1 n c b2 o2 m d xs ys w hx hy hbig hbig2 hc1 hc2
open Go.RowKit Go.Lib in
theorem Tryz.slices_Equal_string_empty (a1 a2:Option Addr) (c m d:Nat) (w:World) (hbig2:m≤9223372036854775807) :
 Calls Tryz.prog 65 #[.slice a1 0 c,.slice a2 m d] w fun e w'=>e=.returned (.bool (decide (m=0)))∧w'=w:=Any.slices_Equal_string_empty Tryz.lays193 a1 a2 c m d w hbig2
open Go.RowKit Go.Lib in
open Go.RowKit Go.Lib in
open Go.RowKit Go.Lib in
open Go.RowKit Go.Lib in
theorem Tryz.slices_Equal_string_lens (a1 a2:Option Addr) (n c m d:Nat) (w:World) (hnm:n≠m) :
 Calls Tryz.prog 65 #[.slice a1 n c,.slice a2 m d] w fun e w'=>e=.returned (.bool false)∧w'=w:=Any.slices_Equal_string_lens Tryz.lays193 a1 a2 n c m d w hnm
end Go.Proofs
