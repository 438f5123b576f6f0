/- Contracts and plain laws that the last text rests on. Conditions: each theorem states its own. -/
import Derived.Shelf.Small.Bits
import Derived.Shelf.Strconv.Itoa0
import Derived.Shelf.Sort.Plain
import Derived.Shelf.Slices.CompactS
import Derived.Shelf.Slices.Cells
import Derived.Shelf.Slices.In.SortNone
import Derived.Shelf.Spec.SearchS
import Derived.Ground.Names2Prog
import Derived.Test.YtfljcllpmbnjaaaGreatProg
set_option maxRecDepth 100000
set_option linter.unusedVariables false
namespace Go.Proofs.YtfljcllpmbnjaaaGreat
open Go.Shelf
def Tryz.lays190_ren:Go.Shelf.Ren:=⟨fun|190=>86|125=>122|258=>121|128=>151|129=>152|302=>143|303=>144|304=>145|305=>146|306=>147|307=>148|308=>88|309=>149|310=>150|333=>166|329=>167|330=>168|334=>169|335=>170|336=>123|344=>178|n=>n,fun|31=>23|9=>9|3=>3|46=>106|0=>0|51=>71|53=>42|4=>4|183=>172|182=>171|131=>66|5=>5|218=>192|222=>195|228=>202|229=>168|n=>n,fun|n=>n⟩
theorem Tryz.lays190:Go.Proofs.Lays.n190 Tryz.prog Tryz.lays190_ren:={
 mixed:=by kernel_rfl
 f125:=Tryz.func122.trans (congrArg some (by kernel_rfl))
 f128:=Tryz.func151.trans (congrArg some (by kernel_rfl))
 f129:=Tryz.func152.trans (congrArg some (by kernel_rfl))
 f190:=Tryz.func86.trans (congrArg some (by kernel_rfl))
 f258:=Tryz.func121.trans (congrArg some (by kernel_rfl))
 f302:=Tryz.func143.trans (congrArg some (by kernel_rfl))
 f303:=Tryz.func144.trans (congrArg some (by kernel_rfl))
 f304:=Tryz.func145.trans (congrArg some (by kernel_rfl))
 f305:=Tryz.func146.trans (congrArg some (by kernel_rfl))
 f306:=Tryz.func147.trans (congrArg some (by kernel_rfl))
 f307:=Tryz.func148.trans (congrArg some (by kernel_rfl))
 f308:=Tryz.func88.trans (congrArg some (by kernel_rfl))
 f309:=Tryz.func149.trans (congrArg some (by kernel_rfl))
 f310:=Tryz.func150.trans (congrArg some (by kernel_rfl))
 f329:=Tryz.func167.trans (congrArg some (by kernel_rfl))
 f330:=Tryz.func168.trans (congrArg some (by kernel_rfl))
 f333:=Tryz.func166.trans (congrArg some (by kernel_rfl))
 f334:=Tryz.func169.trans (congrArg some (by kernel_rfl))
 f335:=Tryz.func170.trans (congrArg some (by kernel_rfl))
 f336:=Tryz.func123.trans (congrArg some (by kernel_rfl))
 f344:=Tryz.func178.trans (congrArg some (by kernel_rfl))
 t0:=Tryz.underlying0
 a0:=Tryz.isAgg0
 z0:=Tryz.sizeOf0
 v0:=Tryz.zeroValue0
 t3:=Tryz.underlying3
 a3:=Tryz.isAgg3
 z3:=Tryz.sizeOf3
 v3:=Tryz.zeroValue3
 t4:=Tryz.underlying4
 a4:=Tryz.isAgg4
 z4:=Tryz.sizeOf4
 v4:=Tryz.zeroValue4
 t5:=Tryz.underlying5
 a5:=Tryz.isAgg5
 z5:=Tryz.sizeOf5
 v5:=Tryz.zeroValue5
 t9:=Tryz.underlying9
 a9:=Tryz.isAgg9
 z9:=Tryz.sizeOf9
 v9:=Tryz.zeroValue9
 t31:=Tryz.underlying23
 a31:=Tryz.isAgg23
 z31:=Tryz.sizeOf23
 v31:=Tryz.zeroValue23
 t46:=Tryz.underlying106
 a46:=Tryz.isAgg106
 z46:=Tryz.sizeOf106
 v46:=Tryz.zeroValue106
 t51:=Tryz.underlying71
 a51:=Tryz.isAgg71
 z51:=Tryz.sizeOf71
 v51:=Tryz.zeroValue71
 t53:=Tryz.underlying42
 a53:=Tryz.isAgg42
 z53:=Tryz.sizeOf42
 v53:=Tryz.zeroValue42
 t131:=Tryz.underlying66
 a131:=Tryz.isAgg66
 z131:=Tryz.sizeOf66
 v131:=Tryz.zeroValue66
 t182:=Tryz.underlying171
 a182:=Tryz.isAgg171
 z182:=Tryz.sizeOf171
 v182:=Tryz.zeroValue171
 t183:=Tryz.underlying172
 a183:=Tryz.isAgg172
 z183:=Tryz.sizeOf172
 v183:=Tryz.zeroValue172
 t218:=Tryz.underlying192
 a218:=Tryz.isAgg192
 z218:=Tryz.sizeOf192
 v218:=Tryz.zeroValue192
 t222:=Tryz.underlying195
 a222:=Tryz.isAgg195
 z222:=Tryz.sizeOf195
 v222:=Tryz.zeroValue195
 t228:=Tryz.underlying202
 a228:=Tryz.isAgg202
 z228:=Tryz.sizeOf202
 v228:=Tryz.zeroValue202
 t229:=Tryz.underlying168
 a229:=Tryz.isAgg168
 z229:=Tryz.sizeOf168
 v229:=Tryz.zeroValue168}
open Go.Sort Go.RowKit in
theorem Tryz.slices_Sort_string (blk off cap:Nat) (ss:List (List UInt8)) (w:World) (hH:Holds encStr w blk off ss.toArray) (hblk:blk<w.heap.size) (hsz:ss.length<4611686018427387904):
 Calls Tryz.prog 86 #[.slice (some ⟨blk,off,none⟩) ss.length cap] w fun e w'=>
  e=.returned (.tuple #[])/\∃n os,w'=grow (putRow encStr (Sort.ahead w n) blk off (ss.mergeSort fun x y=>decide (x<=y)).toArray) os:=Any.slices_Sort_string Tryz.lays190 blk off cap ss w hH hblk hsz
def Tryz.lays194_ren:Go.Shelf.Ren:=⟨fun|194=>41|n=>n,fun|31=>23|9=>9|3=>3|4=>4|0=>0|n=>n,fun|n=>n⟩
theorem Tryz.lays194:Go.Proofs.Lays.n194 Tryz.prog Tryz.lays194_ren:={
 mixed:=by kernel_rfl
 f194:=Tryz.func41.trans (congrArg some (by kernel_rfl))
 t0:=Tryz.underlying0
 a0:=Tryz.isAgg0
 z0:=Tryz.sizeOf0
 v0:=Tryz.zeroValue0
 t3:=Tryz.underlying3
 a3:=Tryz.isAgg3
 z3:=Tryz.sizeOf3
 v3:=Tryz.zeroValue3
 t4:=Tryz.underlying4
 a4:=Tryz.isAgg4
 z4:=Tryz.sizeOf4
 v4:=Tryz.zeroValue4
 t9:=Tryz.underlying9
 a9:=Tryz.isAgg9
 z9:=Tryz.sizeOf9
 v9:=Tryz.zeroValue9
 t31:=Tryz.underlying23
 a31:=Tryz.isAgg23
 z31:=Tryz.sizeOf23
 v31:=Tryz.zeroValue23}
open Go.RowKit Go.Lib Go.Sort in
theorem Tryz.slices_Compact_string (blk off cap:Nat) (zs:List (List UInt8)) (w:World) (hH:Holds encStr w blk off zs.toArray) (hsz:zs.length<=9223372036854775807) (hcap:zs.length<=cap):
 Calls Tryz.prog 41 #[.slice (some ⟨blk,off,none⟩) zs.length cap] w fun e w'=>e=.returned (.slice (some ⟨blk,off,none⟩) (Lib.compact zs).length cap)/\∃q,w'=putRow encStr (Sort.ahead w q) blk off (Lib.compact zs++List.replicate (zs.length-(Lib.compact zs).length) []).toArray:=Any.slices_Compact_string Tryz.lays194 blk off cap zs w hH hsz hcap
open Go.RowKit Go.Lib Go.Sort in
theorem Tryz.slices_Compact_string_empty (a:Option Addr) (cap:Nat) (w:World):
 Calls Tryz.prog 41 #[.slice a 0 cap] w fun e w'=>e=.returned (.slice a 0 cap)/\w'=w:=Any.slices_Compact_string_empty Tryz.lays194 a cap w
open Go.RowKit Go.Sort in
theorem Tryz.slices_Sort_string_none (p:Option Addr) (cap:Nat) (w:World):
 Calls Tryz.prog 86 #[.slice p 0 cap] w fun e w'=>e=.returned (.tuple #[])/\w'=w:=Any.slices_Sort_string_none Tryz.lays190 p cap w
def Tryz.lays2n26_ren:Go.Shelf.Ren:=⟨fun|26=>45|33=>88|34=>89|38=>123|n=>n,fun|24=>23|9=>9|3=>3|4=>4|40=>106|0=>0|n=>n,fun|n=>n⟩
theorem Tryz.lays2n26:Go.Proofs.Lays2.n26 Tryz.prog Tryz.lays2n26_ren:={
 mixed:=by kernel_rfl
 f26:=Tryz.func45.trans (congrArg some (by kernel_rfl))
 f33:=Tryz.func88.trans (congrArg some (by kernel_rfl))
 f34:=Tryz.func89.trans (congrArg some (by kernel_rfl))
 f38:=Tryz.func123.trans (congrArg some (by kernel_rfl))
 t0:=Tryz.underlying0
 a0:=Tryz.isAgg0
 z0:=Tryz.sizeOf0
 v0:=Tryz.zeroValue0
 t3:=Tryz.underlying3
 a3:=Tryz.isAgg3
 z3:=Tryz.sizeOf3
 v3:=Tryz.zeroValue3
 t4:=Tryz.underlying4
 a4:=Tryz.isAgg4
 z4:=Tryz.sizeOf4
 v4:=Tryz.zeroValue4
 t9:=Tryz.underlying9
 a9:=Tryz.isAgg9
 z9:=Tryz.sizeOf9
 v9:=Tryz.zeroValue9
 t24:=Tryz.underlying23
 a24:=Tryz.isAgg23
 z24:=Tryz.sizeOf23
 v24:=Tryz.zeroValue23
 t40:=Tryz.underlying106
 a40:=Tryz.isAgg106
 z40:=Tryz.sizeOf106
 v40:=Tryz.zeroValue106}
open Go.RowKit Go.Lib Go.Sort in
theorem Tryz.slices_BinarySearch_string (b off n c:Nat) (Sx:Nat->ByteArray) (x:ByteArray) (w:World) (hbig:n<4611686018427387904) (hc:∀j,j<n->w.cell? ⟨b,off+j,none⟩=some (.string (Sx j))):
 Calls Tryz.prog 45 #[.slice (some ⟨b,off,none⟩) n c,.string x] w fun e w'=>
  e=.returned (.tuple #[.int .i64 (Lib.bsGo (fun t=>Op.bytesLess (Sx t).toList x.toList) n 0 n:Nat),.bool (decide (Lib.bsGo (fun t=>Op.bytesLess (Sx t).toList x.toList) n 0 n<n/\Sx (Lib.bsGo (fun t=>Op.bytesLess (Sx t).toList x.toList) n 0 n)=x))])/\∃q,w'=w.drewN q:=Any2.slices_BinarySearch_string Tryz.lays2n26 b off n c Sx x w hbig hc
end Go.Proofs.YtfljcllpmbnjaaaGreat
