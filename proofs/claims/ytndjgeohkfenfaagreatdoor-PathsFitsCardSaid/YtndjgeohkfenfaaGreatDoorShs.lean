/-
  DERIVED: THE SHELF's CONTRACTS AT THIS DUMP, IN PLAIN WORDS (tools/lay-plain.mjs out of 'YtndjgeohkfenfaaGreatDoorShsS.lean', which tools/lay-shelf.mjs wrote): THE SAME DECLARATIONS UNDER THE SAME NAMES: 'import', 'namespace', 'open', 'def', 'theorem' AND NOTHING ELSE: no command of the shelf's: FOR A HAND-IN. Each laying: the table of numbers ('.._ren') and one theorem, a field a fact of the dump's own or the kernel's comparison; each contract: ONE APPLICATION.
-/
import Derived.Shelf.LaysM
import Derived.Shelf.Sort.Plain
import Derived.Shelf.Slices.In.SortNone
import Derived.Test.YtndjgeohkfenfaaGreatDoorProg
namespace Go.Proofs
open Go.Shelf
def Tryz.lays190_ren : Go.Shelf.Ren := ⟨fun | 190 => 47 | 125 => 89 | 258 => 88 | 128 => 131 | 129 => 132 | 302 => 122 | 303 => 123 | 304 => 124 | 305 => 125 | 306 => 126 | 307 => 127 | 308 => 128 | 309 => 129 | 310 => 130 | 333 => 153 | 329 => 154 | 330 => 155 | 334 => 156 | 335 => 157 | 336 => 158 | 344 => 176 | n => n, fun | 31 => 39 | 9 => 9 | 3 => 3 | 46 => 149 | 0 => 0 | 51 => 200 | 53 => 202 | 4 => 4 | 183 => 192 | 182 => 191 | 131 => 197 | 5 => 5 | 218 => 218 | 222 => 222 | 228 => 231 | 229 => 176 | n => n, fun | n => n⟩
theorem Tryz.lays190 : Go.Proofs.Lays.n190 Tryz.prog Tryz.lays190_ren := {
  mixed := by kernel_rfl
  f125 := Tryz.func89.trans (congrArg some (by kernel_rfl))
  f128 := Tryz.func131.trans (congrArg some (by kernel_rfl))
  f129 := Tryz.func132.trans (congrArg some (by kernel_rfl))
  f190 := Tryz.func47.trans (congrArg some (by kernel_rfl))
  f258 := Tryz.func88.trans (congrArg some (by kernel_rfl))
  f302 := Tryz.func122.trans (congrArg some (by kernel_rfl))
  f303 := Tryz.func123.trans (congrArg some (by kernel_rfl))
  f304 := Tryz.func124.trans (congrArg some (by kernel_rfl))
  f305 := Tryz.func125.trans (congrArg some (by kernel_rfl))
  f306 := Tryz.func126.trans (congrArg some (by kernel_rfl))
  f307 := Tryz.func127.trans (congrArg some (by kernel_rfl))
  f308 := Tryz.func128.trans (congrArg some (by kernel_rfl))
  f309 := Tryz.func129.trans (congrArg some (by kernel_rfl))
  f310 := Tryz.func130.trans (congrArg some (by kernel_rfl))
  f329 := Tryz.func154.trans (congrArg some (by kernel_rfl))
  f330 := Tryz.func155.trans (congrArg some (by kernel_rfl))
  f333 := Tryz.func153.trans (congrArg some (by kernel_rfl))
  f334 := Tryz.func156.trans (congrArg some (by kernel_rfl))
  f335 := Tryz.func157.trans (congrArg some (by kernel_rfl))
  f336 := Tryz.func158.trans (congrArg some (by kernel_rfl))
  f344 := Tryz.func176.trans (congrArg some (by kernel_rfl))
  t0 := Tryz.underlying0
  a0 := Tryz.isAgg0
  z0 := Tryz.sizeOf0
  v0 := Tryz.zeroValue0
  t3 := Tryz.underlying3
  a3 := Tryz.isAgg3
  z3 := Tryz.sizeOf3
  v3 := Tryz.zeroValue3
  t4 := Tryz.underlying4
  a4 := Tryz.isAgg4
  z4 := Tryz.sizeOf4
  v4 := Tryz.zeroValue4
  t5 := Tryz.underlying5
  a5 := Tryz.isAgg5
  z5 := Tryz.sizeOf5
  v5 := Tryz.zeroValue5
  t9 := Tryz.underlying9
  a9 := Tryz.isAgg9
  z9 := Tryz.sizeOf9
  v9 := Tryz.zeroValue9
  t31 := Tryz.underlying39
  a31 := Tryz.isAgg39
  z31 := Tryz.sizeOf39
  v31 := Tryz.zeroValue39
  t46 := Tryz.underlying149
  a46 := Tryz.isAgg149
  z46 := Tryz.sizeOf149
  v46 := Tryz.zeroValue149
  t51 := Tryz.underlying200
  a51 := Tryz.isAgg200
  z51 := Tryz.sizeOf200
  v51 := Tryz.zeroValue200
  t53 := Tryz.underlying202
  a53 := Tryz.isAgg202
  z53 := Tryz.sizeOf202
  v53 := Tryz.zeroValue202
  t131 := Tryz.underlying197
  a131 := Tryz.isAgg197
  z131 := Tryz.sizeOf197
  v131 := Tryz.zeroValue197
  t182 := Tryz.underlying191
  a182 := Tryz.isAgg191
  z182 := Tryz.sizeOf191
  v182 := Tryz.zeroValue191
  t183 := Tryz.underlying192
  a183 := Tryz.isAgg192
  z183 := Tryz.sizeOf192
  v183 := Tryz.zeroValue192
  t218 := Tryz.underlying218
  a218 := Tryz.isAgg218
  z218 := Tryz.sizeOf218
  v218 := Tryz.zeroValue218
  t222 := Tryz.underlying222
  a222 := Tryz.isAgg222
  z222 := Tryz.sizeOf222
  v222 := Tryz.zeroValue222
  t228 := Tryz.underlying231
  a228 := Tryz.isAgg231
  z228 := Tryz.sizeOf231
  v228 := Tryz.zeroValue231
  t229 := Tryz.underlying176
  a229 := Tryz.isAgg176
  z229 := Tryz.sizeOf176
  v229 := Tryz.zeroValue176 }
open Go.Sort Go.RowKit in
theorem Tryz.slices_Sort_string (blk off cap : Nat) (ss : List (List UInt8)) (w : World) (hH : Holds encStr w blk off ss.toArray) (hblk : blk < w.heap.size) (hsz : ss.length < 4611686018427387904) :
    Calls Tryz.prog 47 #[.slice (some ⟨blk, off, none⟩) ss.length cap] w fun e w' =>
      e = .returned (.tuple #[]) ∧ ∃ n os, w' = grow (putRow encStr (Sort.ahead w n) blk off (ss.mergeSort fun x y => decide (x ≤ y)).toArray) os := Any.slices_Sort_string Tryz.lays190 blk off cap ss w hH hblk hsz
open Go.RowKit Go.Sort in
/-- .. and plain. (LAID: no walk: one application.) -/
theorem Tryz.slices_Sort_string_none (p : Option Addr) (cap : Nat) (w : World) :
    Calls Tryz.prog 47 #[.slice p 0 cap] w fun e w' => e = .returned (.tuple #[]) ∧ w' = w := Any.slices_Sort_string_none Tryz.lays190 p cap w
end Go.Proofs
