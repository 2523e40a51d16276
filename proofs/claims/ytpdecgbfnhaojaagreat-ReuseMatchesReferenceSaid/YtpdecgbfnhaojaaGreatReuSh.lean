/-
  DERIVED: THE SHELF's CONTRACTS AT THIS DUMP, IN PLAIN WORDS (tools/lay-plain.mjs out of 'YtpdecgbfnhaojaaGreatReuSh.lean', which tools/lay-shelf.mjs wrote): THE SAME DECLARATIONS UNDER THE SAME NAMES: 'import', 'namespace', 'open', 'def', 'theorem' AND NOTHING ELSE: no command of the shelf's: FOR A HAND-IN. Each laying: the table of numbers ('.._ren') and one theorem, a field a fact of the dump's own or the kernel's comparison; each contract: ONE APPLICATION.
-/
import Derived.Shelf.Sort.Plain
import Derived.Shelf.Slices.In.SortNone
import Derived.Test.YtpdecgbfnhaojaaGreatProg
namespace Go.Proofs
open Go.Shelf
def Tryz.lays189_ren : Go.Shelf.Ren := ⟨fun | 189 => 35 | 125 => 71 | 257 => 70 | 128 => 96 | 129 => 97 | 294 => 87 | 295 => 88 | 296 => 89 | 297 => 90 | 298 => 91 | 299 => 92 | 216 => 93 | 300 => 94 | 301 => 95 | 328 => 99 | 329 => 100 | 330 => 101 | 331 => 102 | 332 => 103 | 215 => 104 | 343 => 105 | n => n, fun | 28 => 48 | 3 => 3 | 46 => 81 | 0 => 0 | 51 => 102 | 53 => 104 | 4 => 4 | 183 => 95 | 182 => 94 | 131 => 99 | 5 => 5 | 9 => 9 | 218 => 106 | 222 => 110 | 228 => 112 | 229 => 113 | n => n, fun | n => n⟩
theorem Tryz.lays189 : Go.Proofs.Lays.n189 Tryz.prog Tryz.lays189_ren := {
  mixed := by kernel_rfl
  f125 := Tryz.func71.trans (congrArg some (by kernel_rfl))
  f128 := Tryz.func96.trans (congrArg some (by kernel_rfl))
  f129 := Tryz.func97.trans (congrArg some (by kernel_rfl))
  f189 := Tryz.func35.trans (congrArg some (by kernel_rfl))
  f215 := Tryz.func104.trans (congrArg some (by kernel_rfl))
  f216 := Tryz.func93.trans (congrArg some (by kernel_rfl))
  f257 := Tryz.func70.trans (congrArg some (by kernel_rfl))
  f294 := Tryz.func87.trans (congrArg some (by kernel_rfl))
  f295 := Tryz.func88.trans (congrArg some (by kernel_rfl))
  f296 := Tryz.func89.trans (congrArg some (by kernel_rfl))
  f297 := Tryz.func90.trans (congrArg some (by kernel_rfl))
  f298 := Tryz.func91.trans (congrArg some (by kernel_rfl))
  f299 := Tryz.func92.trans (congrArg some (by kernel_rfl))
  f300 := Tryz.func94.trans (congrArg some (by kernel_rfl))
  f301 := Tryz.func95.trans (congrArg some (by kernel_rfl))
  f328 := Tryz.func99.trans (congrArg some (by kernel_rfl))
  f329 := Tryz.func100.trans (congrArg some (by kernel_rfl))
  f330 := Tryz.func101.trans (congrArg some (by kernel_rfl))
  f331 := Tryz.func102.trans (congrArg some (by kernel_rfl))
  f332 := Tryz.func103.trans (congrArg some (by kernel_rfl))
  f343 := Tryz.func105.trans (congrArg some (by kernel_rfl))
  t0 := Tryz.underlying0
  a0 := Tryz.isAgg0
  z0 := Tryz.sizeOf0
  v0 := Tryz.zeroValue0
  t3 := Tryz.underlying3
  a3 := Tryz.isAgg3
  z3 := Tryz.sizeOf3
  v3 := Tryz.zeroValue3
  t4 := Tryz.underlying4
  a4 := Tryz.isAgg4
  z4 := Tryz.sizeOf4
  v4 := Tryz.zeroValue4
  t5 := Tryz.underlying5
  a5 := Tryz.isAgg5
  z5 := Tryz.sizeOf5
  v5 := Tryz.zeroValue5
  t9 := Tryz.underlying9
  a9 := Tryz.isAgg9
  z9 := Tryz.sizeOf9
  v9 := Tryz.zeroValue9
  t28 := Tryz.underlying48
  a28 := Tryz.isAgg48
  z28 := Tryz.sizeOf48
  v28 := Tryz.zeroValue48
  t46 := Tryz.underlying81
  a46 := Tryz.isAgg81
  z46 := Tryz.sizeOf81
  v46 := Tryz.zeroValue81
  t51 := Tryz.underlying102
  a51 := Tryz.isAgg102
  z51 := Tryz.sizeOf102
  v51 := Tryz.zeroValue102
  t53 := Tryz.underlying104
  a53 := Tryz.isAgg104
  z53 := Tryz.sizeOf104
  v53 := Tryz.zeroValue104
  t131 := Tryz.underlying99
  a131 := Tryz.isAgg99
  z131 := Tryz.sizeOf99
  v131 := Tryz.zeroValue99
  t182 := Tryz.underlying94
  a182 := Tryz.isAgg94
  z182 := Tryz.sizeOf94
  v182 := Tryz.zeroValue94
  t183 := Tryz.underlying95
  a183 := Tryz.isAgg95
  z183 := Tryz.sizeOf95
  v183 := Tryz.zeroValue95
  t218 := Tryz.underlying106
  a218 := Tryz.isAgg106
  z218 := Tryz.sizeOf106
  v218 := Tryz.zeroValue106
  t222 := Tryz.underlying110
  a222 := Tryz.isAgg110
  z222 := Tryz.sizeOf110
  v222 := Tryz.zeroValue110
  t228 := Tryz.underlying112
  a228 := Tryz.isAgg112
  z228 := Tryz.sizeOf112
  v228 := Tryz.zeroValue112
  t229 := Tryz.underlying113
  a229 := Tryz.isAgg113
  z229 := Tryz.sizeOf113
  v229 := Tryz.zeroValue113 }
open Go.Sort Go.RowKit in
theorem Tryz.slices_Sort_int (blk off cap : Nat) (zs : List Int) (w : World) (hH : Holds (Value.int .i64) w blk off zs.toArray) (hblk : blk < w.heap.size) (hsz : zs.length < 4611686018427387904) :
    Calls Tryz.prog 35 #[.slice (some ⟨blk, off, none⟩) zs.length cap] w fun e w' =>
      e = .returned (.tuple #[]) ∧ ∃ n os, w' = grow (putRow (Value.int .i64) (Sort.ahead w n) blk off (zs.mergeSort fun x y => decide (x ≤ y)).toArray) os := Any.slices_Sort_int Tryz.lays189 blk off cap zs w hH hblk hsz
open Go.RowKit Go.Sort in
/-- .. and plain. (LAID: no walk: one application.) -/
theorem Tryz.slices_Sort_int_none (p : Option Addr) (cap : Nat) (w : World) :
    Calls Tryz.prog 35 #[.slice p 0 cap] w fun e w' => e = .returned (.tuple #[]) ∧ w' = w := Any.slices_Sort_int_none Tryz.lays189 p cap w
end Go.Proofs
