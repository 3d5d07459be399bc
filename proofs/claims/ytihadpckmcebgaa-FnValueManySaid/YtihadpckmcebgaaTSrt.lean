/-
  DERIVED: THE SHELF's CONTRACTS AT THIS DUMP, IN PLAIN WORDS (tools/lay-plain.mjs out of 'TryShelf.lean', which tools/lay-shelf.mjs wrote): THE SAME DECLARATIONS UNDER THE SAME NAMES: 'import', 'namespace', 'open', 'def', 'theorem' AND NOTHING ELSE: no command of the shelf's: FOR A HAND-IN. Each laying: the table of numbers ('.._ren') and one theorem, a field a fact of the dump's own or the kernel's comparison; each contract: ONE APPLICATION.
-/
import Derived.Shelf.Sort.Plain
import Derived.Test.YtihadpckmcebgaaProg
namespace Go.Proofs
open Go.Shelf
def Try.lays189_ren : Go.Shelf.Ren := ⟨fun | 189 => 141 | 125 => 153 | 257 => 152 | 128 => 165 | 129 => 166 | 294 => 156 | 295 => 157 | 296 => 158 | 297 => 159 | 298 => 160 | 299 => 161 | 216 => 162 | 300 => 163 | 301 => 164 | 328 => 167 | 329 => 168 | 330 => 169 | 331 => 170 | 332 => 171 | 215 => 172 | 343 => 173 | n => n, fun | 28 => 25 | 3 => 3 | 46 => 83 | 0 => 0 | 51 => 91 | 53 => 93 | 4 => 4 | 183 => 86 | 182 => 85 | 131 => 75 | 5 => 5 | 9 => 9 | 218 => 94 | 222 => 98 | 228 => 100 | 229 => 59 | n => n, fun | n => n⟩
theorem Try.lays189 : Go.Proofs.Lays.n189 Try.prog Try.lays189_ren := {
  mixed := by kernel_rfl
  f125 := Try.func153.trans (congrArg some (by kernel_rfl))
  f128 := Try.func165.trans (congrArg some (by kernel_rfl))
  f129 := Try.func166.trans (congrArg some (by kernel_rfl))
  f189 := Try.func141.trans (congrArg some (by kernel_rfl))
  f215 := Try.func172.trans (congrArg some (by kernel_rfl))
  f216 := Try.func162.trans (congrArg some (by kernel_rfl))
  f257 := Try.func152.trans (congrArg some (by kernel_rfl))
  f294 := Try.func156.trans (congrArg some (by kernel_rfl))
  f295 := Try.func157.trans (congrArg some (by kernel_rfl))
  f296 := Try.func158.trans (congrArg some (by kernel_rfl))
  f297 := Try.func159.trans (congrArg some (by kernel_rfl))
  f298 := Try.func160.trans (congrArg some (by kernel_rfl))
  f299 := Try.func161.trans (congrArg some (by kernel_rfl))
  f300 := Try.func163.trans (congrArg some (by kernel_rfl))
  f301 := Try.func164.trans (congrArg some (by kernel_rfl))
  f328 := Try.func167.trans (congrArg some (by kernel_rfl))
  f329 := Try.func168.trans (congrArg some (by kernel_rfl))
  f330 := Try.func169.trans (congrArg some (by kernel_rfl))
  f331 := Try.func170.trans (congrArg some (by kernel_rfl))
  f332 := Try.func171.trans (congrArg some (by kernel_rfl))
  f343 := Try.func173.trans (congrArg some (by kernel_rfl))
  t0 := Try.underlying0
  a0 := Try.isAgg0
  z0 := Try.sizeOf0
  v0 := Try.zeroValue0
  t3 := Try.underlying3
  a3 := Try.isAgg3
  z3 := Try.sizeOf3
  v3 := Try.zeroValue3
  t4 := Try.underlying4
  a4 := Try.isAgg4
  z4 := Try.sizeOf4
  v4 := Try.zeroValue4
  t5 := Try.underlying5
  a5 := Try.isAgg5
  z5 := Try.sizeOf5
  v5 := Try.zeroValue5
  t9 := Try.underlying9
  a9 := Try.isAgg9
  z9 := Try.sizeOf9
  v9 := Try.zeroValue9
  t28 := Try.underlying25
  a28 := Try.isAgg25
  z28 := Try.sizeOf25
  v28 := Try.zeroValue25
  t46 := Try.underlying83
  a46 := Try.isAgg83
  z46 := Try.sizeOf83
  v46 := Try.zeroValue83
  t51 := Try.underlying91
  a51 := Try.isAgg91
  z51 := Try.sizeOf91
  v51 := Try.zeroValue91
  t53 := Try.underlying93
  a53 := Try.isAgg93
  z53 := Try.sizeOf93
  v53 := Try.zeroValue93
  t131 := Try.underlying75
  a131 := Try.isAgg75
  z131 := Try.sizeOf75
  v131 := Try.zeroValue75
  t182 := Try.underlying85
  a182 := Try.isAgg85
  z182 := Try.sizeOf85
  v182 := Try.zeroValue85
  t183 := Try.underlying86
  a183 := Try.isAgg86
  z183 := Try.sizeOf86
  v183 := Try.zeroValue86
  t218 := Try.underlying94
  a218 := Try.isAgg94
  z218 := Try.sizeOf94
  v218 := Try.zeroValue94
  t222 := Try.underlying98
  a222 := Try.isAgg98
  z222 := Try.sizeOf98
  v222 := Try.zeroValue98
  t228 := Try.underlying100
  a228 := Try.isAgg100
  z228 := Try.sizeOf100
  v228 := Try.zeroValue100
  t229 := Try.underlying59
  a229 := Try.isAgg59
  z229 := Try.sizeOf59
  v229 := Try.zeroValue59 }
open Go.Sort Go.RowKit in
theorem Try.slices_Sort_int (blk off cap : Nat) (zs : List Int) (w : World) (hH : Holds (Value.int .i64) w blk off zs.toArray) (hblk : blk < w.heap.size) (hsz : zs.length < 4611686018427387904) :
    Calls Try.prog 141 #[.slice (some ⟨blk, off, none⟩) zs.length cap] w fun e w' =>
      e = .returned (.tuple #[]) ∧ ∃ n os, w' = grow (putRow (Value.int .i64) (Sort.ahead w n) blk off (zs.mergeSort fun x y => decide (x ≤ y)).toArray) os := Any.slices_Sort_int Try.lays189 blk off cap zs w hH hblk hsz
end Go.Proofs
