/- DERIVED: THE SHELF's CONTRACTS AT THIS DUMP, IN PLAIN WORDS (tools/lay-plain.mjs out of 'TryShelf.lean', which tools/lay-shelf.mjs wrote): THE SAME DECLARATIONS UNDER THE SAME NAMES: 'import', 'namespace', 'open', 'def', 'theorem' AND NOTHING ELSE: no command of the shelf's: FOR A HAND-IN. Each laying: the table of numbers ('.._ren') and one theorem, a field a fact of the dump's own or the kernel's comparison; each contract: ONE APPLICATION. -/
import Derived.Shelf.Sort.Plain
import Derived.Shelf.Slices.CompactS
import Derived.Shelf.Slices.In.SortNone
import Derived.Shelf.Spec.SearchS
import Derived.Ground.Names2Prog
import Derived.Test.YtlokfmalpkahaaaProg
namespace Go.Proofs.Ytlokfmalpkahaaa
open Go.Shelf
def Try.lays190_ren : Go.Shelf.Ren := ⟨fun | 190 => 58 | 125 => 81 | 258 => 80 | 128 => 105 | 129 => 106 | 302 => 97 | 303 => 98 | 304 => 99 | 305 => 100 | 306 => 101 | 307 => 102 | 308 => 60 | 309 => 103 | 310 => 104 | 333 => 113 | 329 => 114 | 330 => 115 | 334 => 116 | 335 => 117 | 336 => 82 | 344 => 119 | n => n, fun | 31 => 23 | 9 => 9 | 3 => 3 | 46 => 38 | 0 => 0 | 51 => 79 | 53 => 69 | 4 => 4 | 183 => 149 | 182 => 148 | 131 => 70 | 5 => 5 | 218 => 163 | 222 => 166 | 228 => 174 | 229 => 175 | n => n, fun | n => n⟩
theorem Try.lays190 : Go.Proofs.Lays.n190 Try.prog Try.lays190_ren := {
  mixed := by kernel_rfl
  f125 := Try.func81.trans (congrArg some (by kernel_rfl))
  f128 := Try.func105.trans (congrArg some (by kernel_rfl))
  f129 := Try.func106.trans (congrArg some (by kernel_rfl))
  f190 := Try.func58.trans (congrArg some (by kernel_rfl))
  f258 := Try.func80.trans (congrArg some (by kernel_rfl))
  f302 := Try.func97.trans (congrArg some (by kernel_rfl))
  f303 := Try.func98.trans (congrArg some (by kernel_rfl))
  f304 := Try.func99.trans (congrArg some (by kernel_rfl))
  f305 := Try.func100.trans (congrArg some (by kernel_rfl))
  f306 := Try.func101.trans (congrArg some (by kernel_rfl))
  f307 := Try.func102.trans (congrArg some (by kernel_rfl))
  f308 := Try.func60.trans (congrArg some (by kernel_rfl))
  f309 := Try.func103.trans (congrArg some (by kernel_rfl))
  f310 := Try.func104.trans (congrArg some (by kernel_rfl))
  f329 := Try.func114.trans (congrArg some (by kernel_rfl))
  f330 := Try.func115.trans (congrArg some (by kernel_rfl))
  f333 := Try.func113.trans (congrArg some (by kernel_rfl))
  f334 := Try.func116.trans (congrArg some (by kernel_rfl))
  f335 := Try.func117.trans (congrArg some (by kernel_rfl))
  f336 := Try.func82.trans (congrArg some (by kernel_rfl))
  f344 := Try.func119.trans (congrArg some (by kernel_rfl))
  t0 := Try.underlying0
  a0 := Try.isAgg0
  z0 := Try.sizeOf0
  v0 := Try.zeroValue0
  t3 := Try.underlying3
  a3 := Try.isAgg3
  z3 := Try.sizeOf3
  v3 := Try.zeroValue3
  t4 := Try.underlying4
  a4 := Try.isAgg4
  z4 := Try.sizeOf4
  v4 := Try.zeroValue4
  t5 := Try.underlying5
  a5 := Try.isAgg5
  z5 := Try.sizeOf5
  v5 := Try.zeroValue5
  t9 := Try.underlying9
  a9 := Try.isAgg9
  z9 := Try.sizeOf9
  v9 := Try.zeroValue9
  t31 := Try.underlying23
  a31 := Try.isAgg23
  z31 := Try.sizeOf23
  v31 := Try.zeroValue23
  t46 := Try.underlying38
  a46 := Try.isAgg38
  z46 := Try.sizeOf38
  v46 := Try.zeroValue38
  t51 := Try.underlying79
  a51 := Try.isAgg79
  z51 := Try.sizeOf79
  v51 := Try.zeroValue79
  t53 := Try.underlying69
  a53 := Try.isAgg69
  z53 := Try.sizeOf69
  v53 := Try.zeroValue69
  t131 := Try.underlying70
  a131 := Try.isAgg70
  z131 := Try.sizeOf70
  v131 := Try.zeroValue70
  t182 := Try.underlying148
  a182 := Try.isAgg148
  z182 := Try.sizeOf148
  v182 := Try.zeroValue148
  t183 := Try.underlying149
  a183 := Try.isAgg149
  z183 := Try.sizeOf149
  v183 := Try.zeroValue149
  t218 := Try.underlying163
  a218 := Try.isAgg163
  z218 := Try.sizeOf163
  v218 := Try.zeroValue163
  t222 := Try.underlying166
  a222 := Try.isAgg166
  z222 := Try.sizeOf166
  v222 := Try.zeroValue166
  t228 := Try.underlying174
  a228 := Try.isAgg174
  z228 := Try.sizeOf174
  v228 := Try.zeroValue174
  t229 := Try.underlying175
  a229 := Try.isAgg175
  z229 := Try.sizeOf175
  v229 := Try.zeroValue175 }
open Go.Sort Go.RowKit in
theorem Try.slices_Sort_string (blk off cap : Nat) (ss : List (List UInt8)) (w : World) (hH : Holds encStr w blk off ss.toArray) (hblk : blk < w.heap.size) (hsz : ss.length < 4611686018427387904) :
    Calls Try.prog 58 #[.slice (some ⟨blk, off, none⟩) ss.length cap] w fun e w' =>
      e = .returned (.tuple #[]) ∧ ∃ n os, w' = grow (putRow encStr (Sort.ahead w n) blk off (ss.mergeSort fun x y => decide (x ≤ y)).toArray) os := Any.slices_Sort_string Try.lays190 blk off cap ss w hH hblk hsz
def Try.lays194_ren : Go.Shelf.Ren := ⟨fun | 194 => 31 | n => n, fun | 31 => 23 | 9 => 9 | 3 => 3 | 4 => 4 | 0 => 0 | n => n, fun | n => n⟩
theorem Try.lays194 : Go.Proofs.Lays.n194 Try.prog Try.lays194_ren := {
  mixed := by kernel_rfl
  f194 := Try.func31.trans (congrArg some (by kernel_rfl))
  t0 := Try.underlying0
  a0 := Try.isAgg0
  z0 := Try.sizeOf0
  v0 := Try.zeroValue0
  t3 := Try.underlying3
  a3 := Try.isAgg3
  z3 := Try.sizeOf3
  v3 := Try.zeroValue3
  t4 := Try.underlying4
  a4 := Try.isAgg4
  z4 := Try.sizeOf4
  v4 := Try.zeroValue4
  t9 := Try.underlying9
  a9 := Try.isAgg9
  z9 := Try.sizeOf9
  v9 := Try.zeroValue9
  t31 := Try.underlying23
  a31 := Try.isAgg23
  z31 := Try.sizeOf23
  v31 := Try.zeroValue23 }
open Go.RowKit Go.Lib Go.Sort in
/-- slices.Compact at []string, over an array: the library's two loops are walked. (LAID: no walk: one application.) -/
theorem Try.slices_Compact_string_arr (blk off cap : Nat) (d : Array (List UInt8)) (w : World) (hH : Holds encStr w blk off d) (hsz : d.size ≤ 9223372036854775807) (hcap : d.size ≤ cap) :
    Calls Try.prog 31 #[.slice (some ⟨blk, off, none⟩) d.size cap] w fun e w' => e = .returned (.slice (some ⟨blk, off, none⟩) (compactUpTo d d.size).length cap) ∧ ∃ q, w' = putRow encStr (Sort.ahead w q) blk off (compactUpTo d d.size ++ List.replicate (d.size - (compactUpTo d d.size).length) []).toArray := Any.slices_Compact_string_arr Try.lays194 blk off cap d w hH hsz hcap
open Go.RowKit Go.Lib Go.Sort in
/-- slices.Compact at []string: "Compact replaces consecutive runs of equal elements with a single copy. This is like the uniq command found on Unix. Compact modifies the contents of the slice s and returns the modified slice, which may have a smaller length. Compact zeroes the elements between the new length and the original length. The result preserves the nilness of s.": IT RETURNS THE SLICE CUT TO 'Lib.compact zs'; ITS CELLS HOLD 'Lib.compact zs', THEN ZERO VALUES up to the old length; all else is as it was, but for the count of draws. IN THE WORDS OF slices.Sort's CONTRACT ('Holds', 'putRow'): so the everyday 'slices.Sort(xs); xs = slices.Compact(xs)' goes from the one contract to the other. It asks 'zs.length ≤ cap' (every slice's: the reslicing 's[:k]' looks at it). Length 0, nil: '.._empty'. (LAID: no walk: one application.) -/
theorem Try.slices_Compact_string (blk off cap : Nat) (zs : List (List UInt8)) (w : World) (hH : Holds encStr w blk off zs.toArray) (hsz : zs.length ≤ 9223372036854775807) (hcap : zs.length ≤ cap) :
    Calls Try.prog 31 #[.slice (some ⟨blk, off, none⟩) zs.length cap] w fun e w' => e = .returned (.slice (some ⟨blk, off, none⟩) (Lib.compact zs).length cap) ∧ ∃ q, w' = putRow encStr (Sort.ahead w q) blk off (Lib.compact zs ++ List.replicate (zs.length - (Lib.compact zs).length) []).toArray := Any.slices_Compact_string Try.lays194 blk off cap zs w hH hsz hcap
open Go.RowKit Go.Lib Go.Sort in
/-- The same at a slice of length 0, a nil one too: it comes back as it is. (LAID: no walk: one application.) -/
theorem Try.slices_Compact_string_empty (a : Option Addr) (cap : Nat) (w : World) :
    Calls Try.prog 31 #[.slice a 0 cap] w fun e w' => e = .returned (.slice a 0 cap) ∧ w' = w := Any.slices_Compact_string_empty Try.lays194 a cap w
open Go.RowKit Go.Sort in
/-- .. and plain. (LAID: no walk: one application.) -/
theorem Try.slices_Sort_string_none (p : Option Addr) (cap : Nat) (w : World) :
    Calls Try.prog 58 #[.slice p 0 cap] w fun e w' => e = .returned (.tuple #[]) ∧ w' = w := Any.slices_Sort_string_none Try.lays190 p cap w
def Try.lays2n26_ren : Go.Shelf.Ren := ⟨fun | 26 => 35 | 33 => 60 | 34 => 61 | 38 => 82 | n => n, fun | 24 => 23 | 9 => 9 | 3 => 3 | 4 => 4 | 40 => 38 | 0 => 0 | n => n, fun | n => n⟩
theorem Try.lays2n26 : Go.Proofs.Lays2.n26 Try.prog Try.lays2n26_ren := {
  mixed := by kernel_rfl
  f26 := Try.func35.trans (congrArg some (by kernel_rfl))
  f33 := Try.func60.trans (congrArg some (by kernel_rfl))
  f34 := Try.func61.trans (congrArg some (by kernel_rfl))
  f38 := Try.func82.trans (congrArg some (by kernel_rfl))
  t0 := Try.underlying0
  a0 := Try.isAgg0
  z0 := Try.sizeOf0
  v0 := Try.zeroValue0
  t3 := Try.underlying3
  a3 := Try.isAgg3
  z3 := Try.sizeOf3
  v3 := Try.zeroValue3
  t4 := Try.underlying4
  a4 := Try.isAgg4
  z4 := Try.sizeOf4
  v4 := Try.zeroValue4
  t9 := Try.underlying9
  a9 := Try.isAgg9
  z9 := Try.sizeOf9
  v9 := Try.zeroValue9
  t24 := Try.underlying23
  a24 := Try.isAgg23
  z24 := Try.sizeOf23
  v24 := Try.zeroValue23
  t40 := Try.underlying38
  a40 := Try.isAgg38
  z40 := Try.sizeOf38
  v40 := Try.zeroValue38 }
open Go.RowKit Go.Lib Go.Sort in
theorem Try.slices_BinarySearch_string (b off n c : Nat) (Sx : Nat → ByteArray) (x : ByteArray) (w : World) (hbig : n < 4611686018427387904) (hc : ∀ j, j < n → w.cell? ⟨b, off + j, none⟩ = some (.string (Sx j))) :
    Calls Try.prog 35 #[.slice (some ⟨b, off, none⟩) n c, .string x] w fun e w' =>
      e = .returned (.tuple #[.int .i64 (Lib.bsGo (fun t => Op.bytesLess (Sx t).toList x.toList) n 0 n : Nat), .bool (decide (Lib.bsGo (fun t => Op.bytesLess (Sx t).toList x.toList) n 0 n < n ∧ Sx (Lib.bsGo (fun t => Op.bytesLess (Sx t).toList x.toList) n 0 n) = x))]) ∧ ∃ q, w' = w.drewN q := Any2.slices_BinarySearch_string Try.lays2n26 b off n c Sx x w hbig hc
end Go.Proofs.Ytlokfmalpkahaaa
