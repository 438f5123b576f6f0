/- Contracts and plain laws that the last text rests on. Conditions: each theorem states its own. -/
import Derived.Shelf.Strings.Builder1
import Derived.Shelf.Small.Bits
import Derived.Shelf.Strconv.Itoa0
import Derived.Shelf.Strings.Search1
import Derived.Shelf.Strings.Search2
import Derived.Shelf.Strings.Search3
import Derived.Shelf.LaysM
import Derived.Shelf.Strings.Shaped
import Derived.Shelf.Sort.Plain
import Derived.Shelf.Slices.CompactS
import Derived.Ground.Names2Prog
import Derived.Shelf.Slices.SearchI
import Derived.Shelf.Slices.Cells
import Derived.Shelf.Slices.In.SortNone
import Derived.Shelf.Spec.SearchS
import Derived.Test.YtpakjclpjcngmaaGreatProg
set_option maxRecDepth 100000
set_option linter.unusedVariables false
namespace Go.Proofs.YtpakjclpjcngmaaGreat
open Go.Shelf
def Tryz.lays169_ren:Go.Shelf.Ren:=⟨fun|169=>177|n=>n,fun|70=>219|9=>9|0=>0|72=>221|37=>26|127=>273|3=>3|5=>5|n=>n,fun|n=>n⟩
theorem Tryz.lays169:Go.Proofs.Lays.n169 Tryz.prog Tryz.lays169_ren:={
 mixed:=by kernel_rfl
 f169:=Tryz.func177.trans (congrArg some (by kernel_rfl))
 t0:=Tryz.underlying0
 a0:=Tryz.isAgg0
 z0:=Tryz.sizeOf0
 v0:=Tryz.zeroValue0
 t3:=Tryz.underlying3
 a3:=Tryz.isAgg3
 z3:=Tryz.sizeOf3
 v3:=Tryz.zeroValue3
 t9:=Tryz.underlying9
 a9:=Tryz.isAgg9
 z9:=Tryz.sizeOf9
 v9:=Tryz.zeroValue9
 t37:=Tryz.underlying26
 a37:=Tryz.isAgg26
 z37:=Tryz.sizeOf26
 v37:=Tryz.zeroValue26
 t70:=Tryz.underlying219
 a70:=Tryz.isAgg219
 z70:=Tryz.sizeOf219
 v70:=Tryz.zeroValue219
 t72:=Tryz.underlying221
 a72:=Tryz.isAgg221
 z72:=Tryz.sizeOf221
 v72:=Tryz.zeroValue221
 t127:=Tryz.underlying273
 a127:=Tryz.isAgg273
 z127:=Tryz.sizeOf273
 v127:=Tryz.zeroValue273}
theorem Tryz.Builder_Extra_169:Builder.Extra Tryz.prog Tryz.lays169_ren:={
 sizeBuilder:=by kernel_rfl
 liesBuilder:=by kernel_rfl
 t5:=Tryz.underlying5
 a5:=Tryz.isAgg5
 z5:=Tryz.sizeOf5
 v5:=Tryz.zeroValue5
 infoByte:=by kernel_rfl
 cellsByte:=by kernel_rfl
 sizeByte:=by kernel_rfl
 neB5:=by decide}
open Go.RowKit in
theorem Tryz.Builder_String_any (B b:Nat) (l:List UInt8) (w:World) (h:Lib.IsBuilder 221 5 B b (Lib.byteCells l) w) (hBw:B<=w.heap.size):
 Calls Tryz.prog 177 #[.pointer (some ⟨b,0,none⟩)] w fun e w'=>e=.returned (.string ⟨l.toArray⟩)/\Below B w w':=Any.Builder_String_any Tryz.lays169 Tryz.Builder_Extra_169 B b l w h hBw
def Tryz.lays219_ren:Go.Shelf.Ren:=⟨fun|219=>200|217=>244|225=>245|224=>246|267=>247|266=>287|314=>288|n=>n,fun|9=>9|3=>3|4=>4|5=>5|46=>62|146=>329|51=>104|n=>n,fun|1=>0|n=>n⟩
def Tryz.lays143_ren:Go.Shelf.Ren:=⟨fun|143=>143|219=>200|217=>244|225=>245|224=>246|267=>247|266=>287|314=>288|n=>n,fun|9=>9|3=>3|4=>4|5=>5|46=>62|146=>329|51=>104|n=>n,fun|1=>0|n=>n⟩
theorem Tryz.lays143:Go.Proofs.Lays.n143 Tryz.prog Tryz.lays143_ren:={
 mixed:=by kernel_rfl
 f143:=Tryz.func143.trans (congrArg some (by kernel_rfl))
 f217:=Tryz.func244.trans (congrArg some (by kernel_rfl))
 f219:=Tryz.func200.trans (congrArg some (by kernel_rfl))
 f224:=Tryz.func246.trans (congrArg some (by kernel_rfl))
 f225:=Tryz.func245.trans (congrArg some (by kernel_rfl))
 f266:=Tryz.func287.trans (congrArg some (by kernel_rfl))
 f267:=Tryz.func247.trans (congrArg some (by kernel_rfl))
 f314:=Tryz.func288.trans (congrArg some (by kernel_rfl))
 t3:=Tryz.underlying3
 a3:=Tryz.isAgg3
 z3:=Tryz.sizeOf3
 v3:=Tryz.zeroValue3
 t4:=Tryz.underlying4
 a4:=Tryz.isAgg4
 z4:=Tryz.sizeOf4
 v4:=Tryz.zeroValue4
 t5:=Tryz.underlying5
 a5:=Tryz.isAgg5
 z5:=Tryz.sizeOf5
 v5:=Tryz.zeroValue5
 t9:=Tryz.underlying9
 a9:=Tryz.isAgg9
 z9:=Tryz.sizeOf9
 v9:=Tryz.zeroValue9
 t46:=Tryz.underlying62
 a46:=Tryz.isAgg62
 z46:=Tryz.sizeOf62
 v46:=Tryz.zeroValue62
 t51:=Tryz.underlying104
 a51:=Tryz.isAgg104
 z51:=Tryz.sizeOf104
 v51:=Tryz.zeroValue104
 t146:=Tryz.underlying329
 a146:=Tryz.isAgg329
 z146:=Tryz.sizeOf329
 v146:=Tryz.zeroValue329
 g1:=by kernel_rfl}
open Go.RowKit Go.Lib in
theorem Tryz.strings_Index (s sub:ByteArray) (m:Int) (w:World) (hs:s.size<4294967281) (hm:w.cell? ⟨0,0,none⟩=some (.int .i64 m)):
 Calls Tryz.prog 143 #[.string s,.string sub] w fun e w'=>e=.returned (.int .i64 (Lib.index s.data.toList sub.data.toList))/\w'=w:=Any.strings_Index Tryz.lays143 s sub m w hs hm
def Tryz.lays190_ren:Go.Shelf.Ren:=⟨fun|190=>108|125=>112|258=>172|128=>186|129=>187|302=>220|303=>221|304=>222|305=>223|306=>224|307=>225|308=>217|309=>226|310=>227|333=>266|329=>230|330=>231|334=>267|335=>268|336=>265|344=>297|n=>n,fun|31=>80|9=>9|3=>3|46=>62|0=>0|51=>104|53=>105|4=>4|183=>231|182=>230|131=>212|5=>5|218=>274|222=>277|228=>310|229=>311|n=>n,fun|n=>n⟩
theorem Tryz.lays190:Go.Proofs.Lays.n190 Tryz.prog Tryz.lays190_ren:={
 mixed:=by kernel_rfl
 f125:=Tryz.func112.trans (congrArg some (by kernel_rfl))
 f128:=Tryz.func186.trans (congrArg some (by kernel_rfl))
 f129:=Tryz.func187.trans (congrArg some (by kernel_rfl))
 f190:=Tryz.func108.trans (congrArg some (by kernel_rfl))
 f258:=Tryz.func172.trans (congrArg some (by kernel_rfl))
 f302:=Tryz.func220.trans (congrArg some (by kernel_rfl))
 f303:=Tryz.func221.trans (congrArg some (by kernel_rfl))
 f304:=Tryz.func222.trans (congrArg some (by kernel_rfl))
 f305:=Tryz.func223.trans (congrArg some (by kernel_rfl))
 f306:=Tryz.func224.trans (congrArg some (by kernel_rfl))
 f307:=Tryz.func225.trans (congrArg some (by kernel_rfl))
 f308:=Tryz.func217.trans (congrArg some (by kernel_rfl))
 f309:=Tryz.func226.trans (congrArg some (by kernel_rfl))
 f310:=Tryz.func227.trans (congrArg some (by kernel_rfl))
 f329:=Tryz.func230.trans (congrArg some (by kernel_rfl))
 f330:=Tryz.func231.trans (congrArg some (by kernel_rfl))
 f333:=Tryz.func266.trans (congrArg some (by kernel_rfl))
 f334:=Tryz.func267.trans (congrArg some (by kernel_rfl))
 f335:=Tryz.func268.trans (congrArg some (by kernel_rfl))
 f336:=Tryz.func265.trans (congrArg some (by kernel_rfl))
 f344:=Tryz.func297.trans (congrArg some (by kernel_rfl))
 t0:=Tryz.underlying0
 a0:=Tryz.isAgg0
 z0:=Tryz.sizeOf0
 v0:=Tryz.zeroValue0
 t3:=Tryz.underlying3
 a3:=Tryz.isAgg3
 z3:=Tryz.sizeOf3
 v3:=Tryz.zeroValue3
 t4:=Tryz.underlying4
 a4:=Tryz.isAgg4
 z4:=Tryz.sizeOf4
 v4:=Tryz.zeroValue4
 t5:=Tryz.underlying5
 a5:=Tryz.isAgg5
 z5:=Tryz.sizeOf5
 v5:=Tryz.zeroValue5
 t9:=Tryz.underlying9
 a9:=Tryz.isAgg9
 z9:=Tryz.sizeOf9
 v9:=Tryz.zeroValue9
 t31:=Tryz.underlying80
 a31:=Tryz.isAgg80
 z31:=Tryz.sizeOf80
 v31:=Tryz.zeroValue80
 t46:=Tryz.underlying62
 a46:=Tryz.isAgg62
 z46:=Tryz.sizeOf62
 v46:=Tryz.zeroValue62
 t51:=Tryz.underlying104
 a51:=Tryz.isAgg104
 z51:=Tryz.sizeOf104
 v51:=Tryz.zeroValue104
 t53:=Tryz.underlying105
 a53:=Tryz.isAgg105
 z53:=Tryz.sizeOf105
 v53:=Tryz.zeroValue105
 t131:=Tryz.underlying212
 a131:=Tryz.isAgg212
 z131:=Tryz.sizeOf212
 v131:=Tryz.zeroValue212
 t182:=Tryz.underlying230
 a182:=Tryz.isAgg230
 z182:=Tryz.sizeOf230
 v182:=Tryz.zeroValue230
 t183:=Tryz.underlying231
 a183:=Tryz.isAgg231
 z183:=Tryz.sizeOf231
 v183:=Tryz.zeroValue231
 t218:=Tryz.underlying274
 a218:=Tryz.isAgg274
 z218:=Tryz.sizeOf274
 v218:=Tryz.zeroValue274
 t222:=Tryz.underlying277
 a222:=Tryz.isAgg277
 z222:=Tryz.sizeOf277
 v222:=Tryz.zeroValue277
 t228:=Tryz.underlying310
 a228:=Tryz.isAgg310
 z228:=Tryz.sizeOf310
 v228:=Tryz.zeroValue310
 t229:=Tryz.underlying311
 a229:=Tryz.isAgg311
 z229:=Tryz.sizeOf311
 v229:=Tryz.zeroValue311}
open Go.Sort Go.RowKit in
theorem Tryz.slices_Sort_string (blk off cap:Nat) (ss:List (List UInt8)) (w:World) (hH:Holds encStr w blk off ss.toArray) (hblk:blk<w.heap.size) (hsz:ss.length<4611686018427387904):
 Calls Tryz.prog 108 #[.slice (some ⟨blk,off,none⟩) ss.length cap] w fun e w'=>
  e=.returned (.tuple #[])/\∃n os,w'=grow (putRow encStr (Sort.ahead w n) blk off (ss.mergeSort fun x y=>decide (x<=y)).toArray) os:=Any.slices_Sort_string Tryz.lays190 blk off cap ss w hH hblk hsz
def Tryz.lays194_ren:Go.Shelf.Ren:=⟨fun|194=>41|n=>n,fun|31=>80|9=>9|3=>3|4=>4|0=>0|n=>n,fun|n=>n⟩
theorem Tryz.lays194:Go.Proofs.Lays.n194 Tryz.prog Tryz.lays194_ren:={
 mixed:=by kernel_rfl
 f194:=Tryz.func41.trans (congrArg some (by kernel_rfl))
 t0:=Tryz.underlying0
 a0:=Tryz.isAgg0
 z0:=Tryz.sizeOf0
 v0:=Tryz.zeroValue0
 t3:=Tryz.underlying3
 a3:=Tryz.isAgg3
 z3:=Tryz.sizeOf3
 v3:=Tryz.zeroValue3
 t4:=Tryz.underlying4
 a4:=Tryz.isAgg4
 z4:=Tryz.sizeOf4
 v4:=Tryz.zeroValue4
 t9:=Tryz.underlying9
 a9:=Tryz.isAgg9
 z9:=Tryz.sizeOf9
 v9:=Tryz.zeroValue9
 t31:=Tryz.underlying80
 a31:=Tryz.isAgg80
 z31:=Tryz.sizeOf80
 v31:=Tryz.zeroValue80}
open Go.RowKit Go.Lib Go.Sort in
theorem Tryz.slices_Compact_string (blk off cap:Nat) (zs:List (List UInt8)) (w:World) (hH:Holds encStr w blk off zs.toArray) (hsz:zs.length<=9223372036854775807) (hcap:zs.length<=cap):
 Calls Tryz.prog 41 #[.slice (some ⟨blk,off,none⟩) zs.length cap] w fun e w'=>e=.returned (.slice (some ⟨blk,off,none⟩) (Lib.compact zs).length cap)/\∃q,w'=putRow encStr (Sort.ahead w q) blk off (Lib.compact zs++List.replicate (zs.length-(Lib.compact zs).length) []).toArray:=Any.slices_Compact_string Tryz.lays194 blk off cap zs w hH hsz hcap
open Go.RowKit Go.Lib Go.Sort in
theorem Tryz.slices_Compact_string_empty (a:Option Addr) (cap:Nat) (w:World):
 Calls Tryz.prog 41 #[.slice a 0 cap] w fun e w'=>e=.returned (.slice a 0 cap)/\w'=w:=Any.slices_Compact_string_empty Tryz.lays194 a cap w
open Go.RowKit Go.Sort in
theorem Tryz.slices_Sort_string_none (p:Option Addr) (cap:Nat) (w:World):
 Calls Tryz.prog 108 #[.slice p 0 cap] w fun e w'=>e=.returned (.tuple #[])/\w'=w:=Any.slices_Sort_string_none Tryz.lays190 p cap w
def Tryz.lays2n26_ren:Go.Shelf.Ren:=⟨fun|26=>168|33=>217|34=>218|38=>265|n=>n,fun|24=>80|9=>9|3=>3|4=>4|40=>62|0=>0|n=>n,fun|n=>n⟩
theorem Tryz.lays2n26:Go.Proofs.Lays2.n26 Tryz.prog Tryz.lays2n26_ren:={
 mixed:=by kernel_rfl
 f26:=Tryz.func168.trans (congrArg some (by kernel_rfl))
 f33:=Tryz.func217.trans (congrArg some (by kernel_rfl))
 f34:=Tryz.func218.trans (congrArg some (by kernel_rfl))
 f38:=Tryz.func265.trans (congrArg some (by kernel_rfl))
 t0:=Tryz.underlying0
 a0:=Tryz.isAgg0
 z0:=Tryz.sizeOf0
 v0:=Tryz.zeroValue0
 t3:=Tryz.underlying3
 a3:=Tryz.isAgg3
 z3:=Tryz.sizeOf3
 v3:=Tryz.zeroValue3
 t4:=Tryz.underlying4
 a4:=Tryz.isAgg4
 z4:=Tryz.sizeOf4
 v4:=Tryz.zeroValue4
 t9:=Tryz.underlying9
 a9:=Tryz.isAgg9
 z9:=Tryz.sizeOf9
 v9:=Tryz.zeroValue9
 t24:=Tryz.underlying80
 a24:=Tryz.isAgg80
 z24:=Tryz.sizeOf80
 v24:=Tryz.zeroValue80
 t40:=Tryz.underlying62
 a40:=Tryz.isAgg62
 z40:=Tryz.sizeOf62
 v40:=Tryz.zeroValue62}
open Go.RowKit Go.Lib Go.Sort in
theorem Tryz.slices_BinarySearch_string (b off n c:Nat) (Sx:Nat->ByteArray) (x:ByteArray) (w:World) (hbig:n<4611686018427387904) (hc:∀j,j<n->w.cell? ⟨b,off+j,none⟩=some (.string (Sx j))):
 Calls Tryz.prog 168 #[.slice (some ⟨b,off,none⟩) n c,.string x] w fun e w'=>
  e=.returned (.tuple #[.int .i64 (Lib.bsGo (fun t=>Op.bytesLess (Sx t).toList x.toList) n 0 n:Nat),.bool (decide (Lib.bsGo (fun t=>Op.bytesLess (Sx t).toList x.toList) n 0 n<n/\Sx (Lib.bsGo (fun t=>Op.bytesLess (Sx t).toList x.toList) n 0 n)=x))])/\∃q,w'=w.drewN q:=Any2.slices_BinarySearch_string Tryz.lays2n26 b off n c Sx x w hbig hc
end Go.Proofs.YtpakjclpjcngmaaGreat
