/- Contracts and plain laws that the last text rests on. Conditions: each theorem states its own. -/
import Derived.Shelf.Strings.Builder1
import Derived.Shelf.Small.Bits
import Derived.Shelf.Small.Wraps
import Derived.Shelf.Strings.BuilderF
import Derived.Shelf.Strings.BuilderK
import Derived.Shelf.Strconv.Itoa0
import Derived.Shelf.Strings.Search1
import Derived.Shelf.Strings.Search2
import Derived.Shelf.Strings.Search3
import Derived.Shelf.LaysM
import Derived.Shelf.Strings.Shaped
import Derived.Shelf.Sort.Plain
import Derived.Shelf.Strings.BuilderCap
import Derived.Shelf.Slices.Turned
import Derived.Ground.Names2Prog
import Derived.Shelf.Slices.Clone
import Derived.Shelf.Slices.CompactS
import Derived.Shelf.Slices.SearchI
import Derived.Shelf.Slices.Cells
import Derived.Shelf.Slices.In.SortNone
import Derived.Ground.SlbCloneProg
import Derived.Shelf.Bytes.SlClone
import Derived.Ground.SlgnProg
import Derived.Shelf.SlicesE.Clone
import Derived.Shelf.Spec.SearchS
import Derived.Test.YtdbfejfhpkakhaaGreatProg
set_option maxRecDepth 100000
set_option linter.unusedVariables false
set_option linter.unusedSimpArgs false
namespace Go.Proofs.YtdbfejfhpkakhaaGreat
open Go.Shelf
def Tryz.lays169_ren:Go.Shelf.Ren:=⟨fun|169=>75|n=>n,fun|70=>156|9=>9|0=>0|72=>158|37=>47|127=>207|3=>3|5=>5|n=>n,fun|n=>n⟩
theorem Tryz.lays169:Go.Proofs.Lays.n169 Tryz.prog Tryz.lays169_ren:={
 mixed:=by kernel_rfl
 f169:=Tryz.func75.trans (congrArg some (by kernel_rfl))
 t0:=Tryz.underlying0
 a0:=Tryz.isAgg0
 z0:=Tryz.sizeOf0
 v0:=Tryz.zeroValue0
 t3:=Tryz.underlying3
 a3:=Tryz.isAgg3
 z3:=Tryz.sizeOf3
 v3:=Tryz.zeroValue3
 t9:=Tryz.underlying9
 a9:=Tryz.isAgg9
 z9:=Tryz.sizeOf9
 v9:=Tryz.zeroValue9
 t37:=Tryz.underlying47
 a37:=Tryz.isAgg47
 z37:=Tryz.sizeOf47
 v37:=Tryz.zeroValue47
 t70:=Tryz.underlying156
 a70:=Tryz.isAgg156
 z70:=Tryz.sizeOf156
 v70:=Tryz.zeroValue156
 t72:=Tryz.underlying158
 a72:=Tryz.isAgg158
 z72:=Tryz.sizeOf158
 v72:=Tryz.zeroValue158
 t127:=Tryz.underlying207
 a127:=Tryz.isAgg207
 z127:=Tryz.sizeOf207
 v127:=Tryz.zeroValue207}
theorem Tryz.Builder_Extra_169:Builder.Extra Tryz.prog Tryz.lays169_ren:={
 sizeBuilder:=by kernel_rfl
 liesBuilder:=by kernel_rfl
 t5:=Tryz.underlying5
 a5:=Tryz.isAgg5
 z5:=Tryz.sizeOf5
 v5:=Tryz.zeroValue5
 infoByte:=by kernel_rfl
 cellsByte:=by kernel_rfl
 sizeByte:=by kernel_rfl
 neB5:=by decide}
open Go.RowKit in
theorem Tryz.Builder_String_any (B b:Nat) (l:List UInt8) (w:World) (h:Lib.IsBuilder 158 5 B b (Lib.byteCells l) w) (hBw:B<=w.heap.size):
 Calls Tryz.prog 75 #[.pointer (some ⟨b,0,none⟩)] w fun e w'=>e=.returned (.string ⟨l.toArray⟩)/\Below B w w':=Any.Builder_String_any Tryz.lays169 Tryz.Builder_Extra_169 B b l w h hBw
def Tryz.lays190_ren:Go.Shelf.Ren:=⟨fun|190=>80|125=>110|258=>109|128=>160|129=>161|302=>151|303=>152|304=>153|305=>154|306=>155|307=>156|308=>157|309=>158|310=>159|333=>191|329=>192|330=>193|334=>194|335=>195|336=>115|344=>213|n=>n,fun|31=>22|9=>9|3=>3|46=>46|0=>0|51=>139|53=>123|4=>4|183=>248|182=>247|131=>174|5=>5|218=>280|222=>284|228=>301|229=>302|n=>n,fun|n=>n⟩
theorem Tryz.lays190:Go.Proofs.Lays.n190 Tryz.prog Tryz.lays190_ren:={
 mixed:=by kernel_rfl
 f125:=Tryz.func110.trans (congrArg some (by kernel_rfl))
 f128:=Tryz.func160.trans (congrArg some (by kernel_rfl))
 f129:=Tryz.func161.trans (congrArg some (by kernel_rfl))
 f190:=Tryz.func80.trans (congrArg some (by kernel_rfl))
 f258:=Tryz.func109.trans (congrArg some (by kernel_rfl))
 f302:=Tryz.func151.trans (congrArg some (by kernel_rfl))
 f303:=Tryz.func152.trans (congrArg some (by kernel_rfl))
 f304:=Tryz.func153.trans (congrArg some (by kernel_rfl))
 f305:=Tryz.func154.trans (congrArg some (by kernel_rfl))
 f306:=Tryz.func155.trans (congrArg some (by kernel_rfl))
 f307:=Tryz.func156.trans (congrArg some (by kernel_rfl))
 f308:=Tryz.func157.trans (congrArg some (by kernel_rfl))
 f309:=Tryz.func158.trans (congrArg some (by kernel_rfl))
 f310:=Tryz.func159.trans (congrArg some (by kernel_rfl))
 f329:=Tryz.func192.trans (congrArg some (by kernel_rfl))
 f330:=Tryz.func193.trans (congrArg some (by kernel_rfl))
 f333:=Tryz.func191.trans (congrArg some (by kernel_rfl))
 f334:=Tryz.func194.trans (congrArg some (by kernel_rfl))
 f335:=Tryz.func195.trans (congrArg some (by kernel_rfl))
 f336:=Tryz.func115.trans (congrArg some (by kernel_rfl))
 f344:=Tryz.func213.trans (congrArg some (by kernel_rfl))
 t0:=Tryz.underlying0
 a0:=Tryz.isAgg0
 z0:=Tryz.sizeOf0
 v0:=Tryz.zeroValue0
 t3:=Tryz.underlying3
 a3:=Tryz.isAgg3
 z3:=Tryz.sizeOf3
 v3:=Tryz.zeroValue3
 t4:=Tryz.underlying4
 a4:=Tryz.isAgg4
 z4:=Tryz.sizeOf4
 v4:=Tryz.zeroValue4
 t5:=Tryz.underlying5
 a5:=Tryz.isAgg5
 z5:=Tryz.sizeOf5
 v5:=Tryz.zeroValue5
 t9:=Tryz.underlying9
 a9:=Tryz.isAgg9
 z9:=Tryz.sizeOf9
 v9:=Tryz.zeroValue9
 t31:=Tryz.underlying22
 a31:=Tryz.isAgg22
 z31:=Tryz.sizeOf22
 v31:=Tryz.zeroValue22
 t46:=Tryz.underlying46
 a46:=Tryz.isAgg46
 z46:=Tryz.sizeOf46
 v46:=Tryz.zeroValue46
 t51:=Tryz.underlying139
 a51:=Tryz.isAgg139
 z51:=Tryz.sizeOf139
 v51:=Tryz.zeroValue139
 t53:=Tryz.underlying123
 a53:=Tryz.isAgg123
 z53:=Tryz.sizeOf123
 v53:=Tryz.zeroValue123
 t131:=Tryz.underlying174
 a131:=Tryz.isAgg174
 z131:=Tryz.sizeOf174
 v131:=Tryz.zeroValue174
 t182:=Tryz.underlying247
 a182:=Tryz.isAgg247
 z182:=Tryz.sizeOf247
 v182:=Tryz.zeroValue247
 t183:=Tryz.underlying248
 a183:=Tryz.isAgg248
 z183:=Tryz.sizeOf248
 v183:=Tryz.zeroValue248
 t218:=Tryz.underlying280
 a218:=Tryz.isAgg280
 z218:=Tryz.sizeOf280
 v218:=Tryz.zeroValue280
 t222:=Tryz.underlying284
 a222:=Tryz.isAgg284
 z222:=Tryz.sizeOf284
 v222:=Tryz.zeroValue284
 t228:=Tryz.underlying301
 a228:=Tryz.isAgg301
 z228:=Tryz.sizeOf301
 v228:=Tryz.zeroValue301
 t229:=Tryz.underlying302
 a229:=Tryz.isAgg302
 z229:=Tryz.sizeOf302
 v229:=Tryz.zeroValue302}
open Go.Sort Go.RowKit in
theorem Tryz.slices_Sort_string (blk off cap:Nat) (ss:List (List UInt8)) (w:World) (hH:Holds encStr w blk off ss.toArray) (hblk:blk<w.heap.size) (hsz:ss.length<4611686018427387904):
 Calls Tryz.prog 80 #[.slice (some ⟨blk,off,none⟩) ss.length cap] w fun e w'=>
  e=.returned (.tuple #[])/\∃n os,w'=grow (putRow encStr (Sort.ahead w n) blk off (ss.mergeSort fun x y=>decide (x<=y)).toArray) os:=Any.slices_Sort_string Tryz.lays190 blk off cap ss w hH hblk hsz
def Tryz.lays110_ren:Go.Shelf.Ren:=⟨fun|110=>76|109=>107|n=>n,fun|31=>22|9=>9|4=>4|3=>3|0=>0|n=>n,fun|n=>n⟩
theorem Tryz.lays110:Go.Proofs.Lays.n110 Tryz.prog Tryz.lays110_ren:={
 mixed:=by kernel_rfl
 f109:=Tryz.func107.trans (congrArg some (by kernel_rfl))
 f110:=Tryz.func76.trans (congrArg some (by kernel_rfl))
 t0:=Tryz.underlying0
 a0:=Tryz.isAgg0
 z0:=Tryz.sizeOf0
 v0:=Tryz.zeroValue0
 t3:=Tryz.underlying3
 a3:=Tryz.isAgg3
 z3:=Tryz.sizeOf3
 v3:=Tryz.zeroValue3
 t4:=Tryz.underlying4
 a4:=Tryz.isAgg4
 z4:=Tryz.sizeOf4
 v4:=Tryz.zeroValue4
 t9:=Tryz.underlying9
 a9:=Tryz.isAgg9
 z9:=Tryz.sizeOf9
 v9:=Tryz.zeroValue9
 t31:=Tryz.underlying22
 a31:=Tryz.isAgg22
 z31:=Tryz.sizeOf22
 v31:=Tryz.zeroValue22}
open Go.Lib in
theorem Tryz.slices_Contains_string (b off n c:Nat) (zs:List ByteArray) (x:ByteArray) (w:World) (hz:n<=zs.length) (hbig:n<=9223372036854775807) (hc:∀j,j<zs.length->w.cell? ⟨b,off+j,none⟩=some (.string (zs.getD j ByteArray.empty))):
 Calls Tryz.prog 76 #[.slice (some ⟨b,off,none⟩) n c,.string x] w fun e w'=>e=.returned (.bool (Lib.containsS (zs.take n) x))/\w'=w:=Any.slices_Contains_string Tryz.lays110 b off n c zs x w hz hbig hc
open Go.Lib in
theorem Tryz.slices_Contains_string_empty (a:Option Addr) (c:Nat) (x:ByteArray) (w:World):
 Calls Tryz.prog 76 #[.slice a 0 c,.string x] w fun e w'=>e=.returned (.bool false)/\w'=w:=Any.slices_Contains_string_empty Tryz.lays110 a c x w
def Tryz.laysNm216_ren:Go.Shelf.Ren:=⟨fun|16=>22|n=>n,fun|24=>22|9=>9|4=>4|n=>n,fun|n=>n⟩
theorem Tryz.laysNm216:Go.Proofs.Lays2.n16 Tryz.prog Tryz.laysNm216_ren:={
 mixed:=by kernel_rfl
 f16:=Tryz.func22.trans (congrArg some (by kernel_rfl))
 t4:=Tryz.underlying4
 a4:=Tryz.isAgg4
 z4:=Tryz.sizeOf4
 v4:=Tryz.zeroValue4
 t9:=Tryz.underlying9
 a9:=Tryz.isAgg9
 z9:=Tryz.sizeOf9
 v9:=Tryz.zeroValue9
 t24:=Tryz.underlying22
 a24:=Tryz.isAgg22
 z24:=Tryz.sizeOf22
 v24:=Tryz.zeroValue22
 i9:=by kernel_rfl}
open Go.RowKit Go.Lib in
theorem Tryz.slices_Clone_string (b off n c:Nat) (zs:List ByteArray) (w:World) (hz:n<=zs.length) (hbig:n * 16<=140737488355328) (hc:∀j,j<zs.length->w.cell? ⟨b,off+j,none⟩=some (.string (zs.getD j ByteArray.empty))):
 Calls Tryz.prog 22 #[.slice (some ⟨b,off,none⟩) n c] w fun e w'=>∃v',e=.returned v'/\w'.ownsRow w.heap.size 9 1 v' n ((zs.take n).map (Value.string))/\v'≠ .slice none 0 0/\Below w.heap.size w w':=Any.slices_Clone_string Tryz.laysNm216 b off n c zs w hz hbig hc
open Go.RowKit Go.Lib in
theorem Tryz.slices_Clone_string_nil (n c:Nat) (w:World):
 Calls Tryz.prog 22 #[.slice none n c] w fun e w'=>e=.returned (.slice none 0 0)/\w'=w:=Any.slices_Clone_string_nil Tryz.laysNm216 n c w
open Go.RowKit Go.Lib in
theorem Tryz.slices_Clone_string_zero (a:Addr) (c:Nat) (w:World):
 Calls Tryz.prog 22 #[.slice (some a) 0 c] w fun e w'=>∃v',e=.returned v'/\w'.ownsRow w.heap.size 9 1 v' 0 []/\v'≠ .slice none 0 0/\Below w.heap.size w w':=Any.slices_Clone_string_zero Tryz.laysNm216 a c w
def Tryz.lays194_ren:Go.Shelf.Ren:=⟨fun|194=>92|n=>n,fun|31=>22|9=>9|3=>3|4=>4|0=>0|n=>n,fun|n=>n⟩
theorem Tryz.lays194:Go.Proofs.Lays.n194 Tryz.prog Tryz.lays194_ren:={
 mixed:=by kernel_rfl
 f194:=Tryz.func92.trans (congrArg some (by kernel_rfl))
 t0:=Tryz.underlying0
 a0:=Tryz.isAgg0
 z0:=Tryz.sizeOf0
 v0:=Tryz.zeroValue0
 t3:=Tryz.underlying3
 a3:=Tryz.isAgg3
 z3:=Tryz.sizeOf3
 v3:=Tryz.zeroValue3
 t4:=Tryz.underlying4
 a4:=Tryz.isAgg4
 z4:=Tryz.sizeOf4
 v4:=Tryz.zeroValue4
 t9:=Tryz.underlying9
 a9:=Tryz.isAgg9
 z9:=Tryz.sizeOf9
 v9:=Tryz.zeroValue9
 t31:=Tryz.underlying22
 a31:=Tryz.isAgg22
 z31:=Tryz.sizeOf22
 v31:=Tryz.zeroValue22}
open Go.RowKit Go.Lib Go.Sort in
theorem Tryz.slices_Compact_string (blk off cap:Nat) (zs:List (List UInt8)) (w:World) (hH:Holds encStr w blk off zs.toArray) (hsz:zs.length<=9223372036854775807) (hcap:zs.length<=cap):
 Calls Tryz.prog 92 #[.slice (some ⟨blk,off,none⟩) zs.length cap] w fun e w'=>e=.returned (.slice (some ⟨blk,off,none⟩) (Lib.compact zs).length cap)/\∃q,w'=putRow encStr (Sort.ahead w q) blk off (Lib.compact zs++List.replicate (zs.length-(Lib.compact zs).length) []).toArray:=Any.slices_Compact_string Tryz.lays194 blk off cap zs w hH hsz hcap
open Go.RowKit Go.Lib Go.Sort in
theorem Tryz.slices_Compact_string_empty (a:Option Addr) (cap:Nat) (w:World):
 Calls Tryz.prog 92 #[.slice a 0 cap] w fun e w'=>e=.returned (.slice a 0 cap)/\w'=w:=Any.slices_Compact_string_empty Tryz.lays194 a cap w
open Go.RowKit Go.Sort in
theorem Tryz.slices_Sort_string_none (p:Option Addr) (cap:Nat) (w:World):
 Calls Tryz.prog 80 #[.slice p 0 cap] w fun e w'=>e=.returned (.tuple #[])/\w'=w:=Any.slices_Sort_string_none Tryz.lays190 p cap w
def Tryz.lays2n26_ren:Go.Shelf.Ren:=⟨fun|26=>176|33=>157|34=>206|38=>115|n=>n,fun|24=>22|9=>9|3=>3|4=>4|40=>46|0=>0|n=>n,fun|n=>n⟩
theorem Tryz.lays2n26:Go.Proofs.Lays2.n26 Tryz.prog Tryz.lays2n26_ren:={
 mixed:=by kernel_rfl
 f26:=Tryz.func176.trans (congrArg some (by kernel_rfl))
 f33:=Tryz.func157.trans (congrArg some (by kernel_rfl))
 f34:=Tryz.func206.trans (congrArg some (by kernel_rfl))
 f38:=Tryz.func115.trans (congrArg some (by kernel_rfl))
 t0:=Tryz.underlying0
 a0:=Tryz.isAgg0
 z0:=Tryz.sizeOf0
 v0:=Tryz.zeroValue0
 t3:=Tryz.underlying3
 a3:=Tryz.isAgg3
 z3:=Tryz.sizeOf3
 v3:=Tryz.zeroValue3
 t4:=Tryz.underlying4
 a4:=Tryz.isAgg4
 z4:=Tryz.sizeOf4
 v4:=Tryz.zeroValue4
 t9:=Tryz.underlying9
 a9:=Tryz.isAgg9
 z9:=Tryz.sizeOf9
 v9:=Tryz.zeroValue9
 t24:=Tryz.underlying22
 a24:=Tryz.isAgg22
 z24:=Tryz.sizeOf22
 v24:=Tryz.zeroValue22
 t40:=Tryz.underlying46
 a40:=Tryz.isAgg46
 z40:=Tryz.sizeOf46
 v40:=Tryz.zeroValue46}
open Go.RowKit Go.Lib Go.Sort in
theorem Tryz.slices_BinarySearch_string (b off n c:Nat) (Sx:Nat->ByteArray) (x:ByteArray) (w:World) (hbig:n<4611686018427387904) (hc:∀j,j<n->w.cell? ⟨b,off+j,none⟩=some (.string (Sx j))):
 Calls Tryz.prog 176 #[.slice (some ⟨b,off,none⟩) n c,.string x] w fun e w'=>
  e=.returned (.tuple #[.int .i64 (Lib.bsGo (fun t=>Op.bytesLess (Sx t).toList x.toList) n 0 n:Nat),.bool (decide (Lib.bsGo (fun t=>Op.bytesLess (Sx t).toList x.toList) n 0 n<n/\Sx (Lib.bsGo (fun t=>Op.bytesLess (Sx t).toList x.toList) n 0 n)=x))])/\∃q,w'=w.drewN q:=Any2.slices_BinarySearch_string Tryz.lays2n26 b off n c Sx x w hbig hc
end Go.Proofs.YtdbfejfhpkakhaaGreat
