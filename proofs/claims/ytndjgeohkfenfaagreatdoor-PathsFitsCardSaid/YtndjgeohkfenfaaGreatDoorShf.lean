/-
  DERIVED: THE SHELF's CONTRACTS AT THIS DUMP, IN PLAIN WORDS (tools/lay-plain.mjs out of 'YtndjgeohkfenfaaGreatDoorShfS.lean', which tools/lay-shelf.mjs wrote): THE SAME DECLARATIONS UNDER THE SAME NAMES: 'import', 'namespace', 'open', 'def', 'theorem' AND NOTHING ELSE: no command of the shelf's: FOR A HAND-IN. Each laying: the table of numbers ('.._ren') and one theorem, a field a fact of the dump's own or the kernel's comparison; each contract: ONE APPLICATION.
-/
import Derived.Shelf.Strings.Trim
import Derived.Shelf.Small.Strs
import Derived.Shelf.Strings.Cut
import Derived.Shelf.LaysM
import Derived.Shelf.Strings.LastIndex
import Derived.Shelf.Strings.Repeat
import Derived.Test.YtndjgeohkfenfaaGreatDoorProg
namespace Go.Proofs
open Go.Shelf
def Tryz.lays161_ren : Go.Shelf.Ren := ⟨fun | 161 => 82 | 231 => 112 | 227 => 113 | 233 => 114 | 235 => 115 | 228 => 147 | 197 => 148 | 151 => 149 | 260 => 170 | 152 => 171 | 137 => 151 | 119 => 181 | 224 => 174 | 225 => 173 | 217 => 172 | 266 => 182 | n => n, fun | 9 => 9 | 4 => 4 | 3 => 3 | 5 => 5 | 117 => 183 | 116 => 182 | 0 => 0 | 124 => 186 | 105 => 213 | 21 => 21 | 119 => 235 | 46 => 149 | 139 => 238 | 138 => 237 | n => n, fun | 3 => 1 | 4 => 2 | n => n⟩
theorem Tryz.lays161 : Go.Proofs.Lays.n161 Tryz.prog Tryz.lays161_ren := {
  mixed := by kernel_rfl
  f119 := Tryz.func181.trans (congrArg some (by kernel_rfl))
  f137 := Tryz.func151.trans (congrArg some (by kernel_rfl))
  f151 := Tryz.func149.trans (congrArg some (by kernel_rfl))
  f152 := Tryz.func171.trans (congrArg some (by kernel_rfl))
  f161 := Tryz.func82.trans (congrArg some (by kernel_rfl))
  f197 := Tryz.func148.trans (congrArg some (by kernel_rfl))
  f217 := Tryz.func172.trans (congrArg some (by kernel_rfl))
  f224 := Tryz.func174.trans (congrArg some (by kernel_rfl))
  f225 := Tryz.func173.trans (congrArg some (by kernel_rfl))
  f227 := Tryz.func113.trans (congrArg some (by kernel_rfl))
  f228 := Tryz.func147.trans (congrArg some (by kernel_rfl))
  f231 := Tryz.func112.trans (congrArg some (by kernel_rfl))
  f233 := Tryz.func114.trans (congrArg some (by kernel_rfl))
  f235 := Tryz.func115.trans (congrArg some (by kernel_rfl))
  f260 := Tryz.func170.trans (congrArg some (by kernel_rfl))
  f266 := Tryz.func182.trans (congrArg some (by kernel_rfl))
  t0 := Tryz.underlying0
  a0 := Tryz.isAgg0
  z0 := Tryz.sizeOf0
  v0 := Tryz.zeroValue0
  t3 := Tryz.underlying3
  a3 := Tryz.isAgg3
  z3 := Tryz.sizeOf3
  v3 := Tryz.zeroValue3
  t4 := Tryz.underlying4
  a4 := Tryz.isAgg4
  z4 := Tryz.sizeOf4
  v4 := Tryz.zeroValue4
  t5 := Tryz.underlying5
  a5 := Tryz.isAgg5
  z5 := Tryz.sizeOf5
  v5 := Tryz.zeroValue5
  t9 := Tryz.underlying9
  a9 := Tryz.isAgg9
  z9 := Tryz.sizeOf9
  v9 := Tryz.zeroValue9
  t21 := Tryz.underlying21
  a21 := Tryz.isAgg21
  z21 := Tryz.sizeOf21
  v21 := Tryz.zeroValue21
  t46 := Tryz.underlying149
  a46 := Tryz.isAgg149
  z46 := Tryz.sizeOf149
  v46 := Tryz.zeroValue149
  t105 := Tryz.underlying213
  a105 := Tryz.isAgg213
  z105 := Tryz.sizeOf213
  v105 := Tryz.zeroValue213
  t116 := Tryz.underlying182
  a116 := Tryz.isAgg182
  z116 := Tryz.sizeOf182
  t117 := Tryz.underlying183
  a117 := Tryz.isAgg183
  z117 := Tryz.sizeOf183
  v117 := Tryz.zeroValue183
  t119 := Tryz.underlying235
  a119 := Tryz.isAgg235
  z119 := Tryz.sizeOf235
  t124 := Tryz.underlying186
  a124 := Tryz.isAgg186
  z124 := Tryz.sizeOf186
  v124 := Tryz.zeroValue186
  t138 := Tryz.underlying237
  a138 := Tryz.isAgg237
  z138 := Tryz.sizeOf237
  v138 := Tryz.zeroValue237
  t139 := Tryz.underlying238
  a139 := Tryz.isAgg238
  z139 := Tryz.sizeOf238
  v139 := Tryz.zeroValue238
  g3 := by kernel_rfl
  g4 := by kernel_rfl }
open Go.RowKit in
/-- strings.TrimLeft: "TrimLeft returns a slice of the string s with all leading Unicode code points contained in cutset removed.": AT A cutset OF ONE ASCII BYTE. The world is as it was. (LAID: no walk: one application.) -/
theorem Tryz.strings_TrimLeft_one (s : ByteArray) (c : UInt8) (hc : c.toNat < 128) (w : World) :
    Calls Tryz.prog 82 #[.string s, .string ⟨#[c]⟩] w fun e w' => e = .returned (.string ⟨(Lib.trimLeftB s.data.toList c).toArray⟩) ∧ w' = w := Any.strings_TrimLeft_one Tryz.lays161 s c hc w
def Tryz.lays162_ren : Go.Shelf.Ren := ⟨fun | 162 => 137 | 232 => 162 | 227 => 113 | 234 => 163 | 236 => 164 | 228 => 147 | 271 => 179 | 151 => 149 | 120 => 184 | 197 => 148 | 152 => 171 | 260 => 170 | 137 => 151 | 119 => 181 | 224 => 174 | 225 => 173 | 217 => 172 | 266 => 182 | n => n, fun | 9 => 9 | 4 => 4 | 3 => 3 | 5 => 5 | 117 => 183 | 116 => 182 | 0 => 0 | 124 => 186 | 21 => 21 | 105 => 213 | 46 => 149 | 119 => 235 | 139 => 238 | 138 => 237 | n => n, fun | 3 => 1 | 4 => 2 | n => n⟩
theorem Tryz.lays162 : Go.Proofs.Lays.n162 Tryz.prog Tryz.lays162_ren := {
  mixed := by kernel_rfl
  f119 := Tryz.func181.trans (congrArg some (by kernel_rfl))
  f120 := Tryz.func184.trans (congrArg some (by kernel_rfl))
  f137 := Tryz.func151.trans (congrArg some (by kernel_rfl))
  f151 := Tryz.func149.trans (congrArg some (by kernel_rfl))
  f152 := Tryz.func171.trans (congrArg some (by kernel_rfl))
  f162 := Tryz.func137.trans (congrArg some (by kernel_rfl))
  f197 := Tryz.func148.trans (congrArg some (by kernel_rfl))
  f217 := Tryz.func172.trans (congrArg some (by kernel_rfl))
  f224 := Tryz.func174.trans (congrArg some (by kernel_rfl))
  f225 := Tryz.func173.trans (congrArg some (by kernel_rfl))
  f227 := Tryz.func113.trans (congrArg some (by kernel_rfl))
  f228 := Tryz.func147.trans (congrArg some (by kernel_rfl))
  f232 := Tryz.func162.trans (congrArg some (by kernel_rfl))
  f234 := Tryz.func163.trans (congrArg some (by kernel_rfl))
  f236 := Tryz.func164.trans (congrArg some (by kernel_rfl))
  f260 := Tryz.func170.trans (congrArg some (by kernel_rfl))
  f266 := Tryz.func182.trans (congrArg some (by kernel_rfl))
  f271 := Tryz.func179.trans (congrArg some (by kernel_rfl))
  t0 := Tryz.underlying0
  a0 := Tryz.isAgg0
  z0 := Tryz.sizeOf0
  v0 := Tryz.zeroValue0
  t3 := Tryz.underlying3
  a3 := Tryz.isAgg3
  z3 := Tryz.sizeOf3
  v3 := Tryz.zeroValue3
  t4 := Tryz.underlying4
  a4 := Tryz.isAgg4
  z4 := Tryz.sizeOf4
  v4 := Tryz.zeroValue4
  t5 := Tryz.underlying5
  a5 := Tryz.isAgg5
  z5 := Tryz.sizeOf5
  v5 := Tryz.zeroValue5
  t9 := Tryz.underlying9
  a9 := Tryz.isAgg9
  z9 := Tryz.sizeOf9
  v9 := Tryz.zeroValue9
  t21 := Tryz.underlying21
  a21 := Tryz.isAgg21
  z21 := Tryz.sizeOf21
  v21 := Tryz.zeroValue21
  t46 := Tryz.underlying149
  a46 := Tryz.isAgg149
  z46 := Tryz.sizeOf149
  v46 := Tryz.zeroValue149
  t105 := Tryz.underlying213
  a105 := Tryz.isAgg213
  z105 := Tryz.sizeOf213
  v105 := Tryz.zeroValue213
  t116 := Tryz.underlying182
  a116 := Tryz.isAgg182
  z116 := Tryz.sizeOf182
  t117 := Tryz.underlying183
  a117 := Tryz.isAgg183
  z117 := Tryz.sizeOf183
  v117 := Tryz.zeroValue183
  t119 := Tryz.underlying235
  a119 := Tryz.isAgg235
  z119 := Tryz.sizeOf235
  t124 := Tryz.underlying186
  a124 := Tryz.isAgg186
  z124 := Tryz.sizeOf186
  v124 := Tryz.zeroValue186
  t138 := Tryz.underlying237
  a138 := Tryz.isAgg237
  z138 := Tryz.sizeOf237
  v138 := Tryz.zeroValue237
  t139 := Tryz.underlying238
  a139 := Tryz.isAgg238
  z139 := Tryz.sizeOf238
  v139 := Tryz.zeroValue238
  g3 := by kernel_rfl
  g4 := by kernel_rfl }
open Go.RowKit in
/-- strings.TrimRight: "TrimRight returns a slice of the string s, with all trailing Unicode code points contained in cutset removed.": AT A cutset OF ONE ASCII BYTE. The world is as it was. (LAID: no walk: one application.) -/
theorem Tryz.strings_TrimRight_one (s : ByteArray) (c : UInt8) (hc : c.toNat < 128) (w : World) (hs : s.size ≤ 9223372036854775807) :
    Calls Tryz.prog 137 #[.string s, .string ⟨#[c]⟩] w fun e w' => e = .returned (.string ⟨(Lib.trimRightB s.data.toList c).toArray⟩) ∧ w' = w := Any.strings_TrimRight_one Tryz.lays162 s c hc w hs
def Tryz.lays137_ren : Go.Shelf.Ren := ⟨fun | 137 => 151 | 217 => 172 | 266 => 182 | n => n, fun | 9 => 9 | 5 => 5 | 3 => 3 | n => n, fun | n => n⟩
theorem Tryz.lays137 : Go.Proofs.Lays.n137 Tryz.prog Tryz.lays137_ren := {
  mixed := by kernel_rfl
  f137 := Tryz.func151.trans (congrArg some (by kernel_rfl))
  f217 := Tryz.func172.trans (congrArg some (by kernel_rfl))
  f266 := Tryz.func182.trans (congrArg some (by kernel_rfl))
  t3 := Tryz.underlying3
  a3 := Tryz.isAgg3
  z3 := Tryz.sizeOf3
  v3 := Tryz.zeroValue3
  t5 := Tryz.underlying5
  a5 := Tryz.isAgg5
  z5 := Tryz.sizeOf5
  v5 := Tryz.zeroValue5
  t9 := Tryz.underlying9
  a9 := Tryz.isAgg9
  z9 := Tryz.sizeOf9
  v9 := Tryz.zeroValue9 }
open Go.RowKit in
/-- strings.IndexByte: "IndexByte returns the index of the first instance of c in s, or -1 if c is not present in s.": IT RETURNS 'Lib.indexByte s c'; the world is as it was. (LAID: no walk: one application.) -/
theorem Tryz.strings_IndexByte (s : ByteArray) (c : Int) (w : World) :
    Calls Tryz.prog 151 #[.string s, .int .u8 c] w fun e w' => e = .returned (.int .i64 (Lib.indexByte s.data.toList c.toNat.toUInt8)) ∧ w' = w := Any.strings_IndexByte Tryz.lays137 s c w
def Tryz.lays145_ren : Go.Shelf.Ren := ⟨fun | 145 => 83 | 220 => 116 | 219 => 150 | 217 => 172 | 225 => 173 | 224 => 174 | 267 => 175 | 266 => 182 | 314 => 183 | n => n, fun | 9 => 9 | 4 => 4 | 59 => 143 | 3 => 3 | 5 => 5 | 46 => 149 | 146 => 226 | 51 => 200 | n => n, fun | 1 => 0 | n => n⟩
theorem Tryz.lays145 : Go.Proofs.Lays.n145 Tryz.prog Tryz.lays145_ren := {
  mixed := by kernel_rfl
  f145 := Tryz.func83.trans (congrArg some (by kernel_rfl))
  f217 := Tryz.func172.trans (congrArg some (by kernel_rfl))
  f219 := Tryz.func150.trans (congrArg some (by kernel_rfl))
  f220 := Tryz.func116.trans (congrArg some (by kernel_rfl))
  f224 := Tryz.func174.trans (congrArg some (by kernel_rfl))
  f225 := Tryz.func173.trans (congrArg some (by kernel_rfl))
  f266 := Tryz.func182.trans (congrArg some (by kernel_rfl))
  f267 := Tryz.func175.trans (congrArg some (by kernel_rfl))
  f314 := Tryz.func183.trans (congrArg some (by kernel_rfl))
  t3 := Tryz.underlying3
  a3 := Tryz.isAgg3
  z3 := Tryz.sizeOf3
  v3 := Tryz.zeroValue3
  t4 := Tryz.underlying4
  a4 := Tryz.isAgg4
  z4 := Tryz.sizeOf4
  v4 := Tryz.zeroValue4
  t5 := Tryz.underlying5
  a5 := Tryz.isAgg5
  z5 := Tryz.sizeOf5
  v5 := Tryz.zeroValue5
  t9 := Tryz.underlying9
  a9 := Tryz.isAgg9
  z9 := Tryz.sizeOf9
  v9 := Tryz.zeroValue9
  t46 := Tryz.underlying149
  a46 := Tryz.isAgg149
  z46 := Tryz.sizeOf149
  v46 := Tryz.zeroValue149
  t51 := Tryz.underlying200
  a51 := Tryz.isAgg200
  z51 := Tryz.sizeOf200
  v51 := Tryz.zeroValue200
  t59 := Tryz.underlying143
  a59 := Tryz.isAgg143
  z59 := Tryz.sizeOf143
  v59 := Tryz.zeroValue143
  t146 := Tryz.underlying226
  a146 := Tryz.isAgg226
  z146 := Tryz.sizeOf226
  v146 := Tryz.zeroValue226
  g1 := by kernel_rfl }
open Go.RowKit Go.Lib in
/-- strings.Cut: "Cut slices s around the first instance of sep, returning the text before and after sep. The found result reports whether sep appears in s. If sep does not appear in s, cut returns s, "", false.": IT RETURNS 'Lib.cut s sep'; the world is as it was but for the count of draws. (LAID: no walk: one application.) -/
theorem Tryz.strings_Cut (s sep : ByteArray) (m : Int) (w : World) (hs : s.size < 4294967281) (hm : w.cell? ⟨0, 0, none⟩ = some (.int .i64 m)) :
    Calls Tryz.prog 83 #[.string s, .string sep] w fun e w' => e = .returned (.tuple #[.string ⟨(Lib.cut s.data.toList sep.data.toList).1.toArray⟩, .string ⟨(Lib.cut s.data.toList sep.data.toList).2.1.toArray⟩, .bool (Lib.cut s.data.toList sep.data.toList).2.2]) ∧ ∃ n, w' = w.drewN n := Any.strings_Cut Tryz.lays145 s sep m w hs hm
def Tryz.lays149_ren : Go.Shelf.Ren := ⟨fun | 149 => 138 | 222 => 165 | n => n, fun | 9 => 9 | 5 => 5 | 3 => 3 | 4 => 4 | n => n, fun | n => n⟩
theorem Tryz.lays149 : Go.Proofs.Lays.n149 Tryz.prog Tryz.lays149_ren := {
  mixed := by kernel_rfl
  f149 := Tryz.func138.trans (congrArg some (by kernel_rfl))
  f222 := Tryz.func165.trans (congrArg some (by kernel_rfl))
  t3 := Tryz.underlying3
  a3 := Tryz.isAgg3
  z3 := Tryz.sizeOf3
  v3 := Tryz.zeroValue3
  t4 := Tryz.underlying4
  a4 := Tryz.isAgg4
  z4 := Tryz.sizeOf4
  v4 := Tryz.zeroValue4
  t5 := Tryz.underlying5
  a5 := Tryz.isAgg5
  z5 := Tryz.sizeOf5
  v5 := Tryz.zeroValue5
  t9 := Tryz.underlying9
  a9 := Tryz.isAgg9
  z9 := Tryz.sizeOf9
  v9 := Tryz.zeroValue9 }
open Go.RowKit Go.Lib in
/-- strings.LastIndexByte: "LastIndexByte returns the index of the last instance of c in s, or -1 if c is not present in s." (LAID: no walk: one application.) -/
theorem Tryz.strings_LastIndexByte (s : ByteArray) (c : Int) (hs : s.size < 4611686018427387904) (w : World) :
    Calls Tryz.prog 138 #[.string s, .int .u8 c] w fun e w' => e = .returned (.int .i64 (Lib.lastIndexByte s c)) ∧ w' = w := Any.strings_LastIndexByte Tryz.lays149 s c hs w
def Tryz.lays105_ren : Go.Shelf.Ren := ⟨fun | 105 => 103 | 212 => 141 | 99 => 142 | 165 => 143 | 166 => 90 | 170 => 144 | 169 => 49 | 263 => 166 | 264 => 167 | 206 => 168 | 240 => 133 | 241 => 169 | 276 => 159 | 277 => 180 | n => n, fun | 9 => 9 | 3 => 3 | 4 => 4 | 20 => 20 | 0 => 0 | 46 => 149 | 109 => 209 | 5 => 5 | 72 => 105 | 76 => 152 | 51 => 200 | 146 => 226 | 53 => 202 | 148 => 228 | 70 => 103 | 37 => 102 | 75 => 151 | 127 => 155 | 164 => 224 | 80 => 55 | n => n, fun | n => n⟩
theorem Tryz.lays105 : Go.Proofs.Lays.n105 Tryz.prog Tryz.lays105_ren := {
  mixed := by kernel_rfl
  f99 := Tryz.func142.trans (congrArg some (by kernel_rfl))
  f105 := Tryz.func103.trans (congrArg some (by kernel_rfl))
  f165 := Tryz.func143.trans (congrArg some (by kernel_rfl))
  f166 := Tryz.func90.trans (congrArg some (by kernel_rfl))
  f169 := Tryz.func49.trans (congrArg some (by kernel_rfl))
  f170 := Tryz.func144.trans (congrArg some (by kernel_rfl))
  f206 := Tryz.func168.trans (congrArg some (by kernel_rfl))
  f212 := Tryz.func141.trans (congrArg some (by kernel_rfl))
  f240 := Tryz.func133.trans (congrArg some (by kernel_rfl))
  f241 := Tryz.func169.trans (congrArg some (by kernel_rfl))
  f263 := Tryz.func166.trans (congrArg some (by kernel_rfl))
  f264 := Tryz.func167.trans (congrArg some (by kernel_rfl))
  f276 := Tryz.func159.trans (congrArg some (by kernel_rfl))
  f277 := Tryz.func180.trans (congrArg some (by kernel_rfl))
  t0 := Tryz.underlying0
  a0 := Tryz.isAgg0
  z0 := Tryz.sizeOf0
  v0 := Tryz.zeroValue0
  t3 := Tryz.underlying3
  a3 := Tryz.isAgg3
  z3 := Tryz.sizeOf3
  v3 := Tryz.zeroValue3
  t4 := Tryz.underlying4
  a4 := Tryz.isAgg4
  z4 := Tryz.sizeOf4
  v4 := Tryz.zeroValue4
  t5 := Tryz.underlying5
  a5 := Tryz.isAgg5
  z5 := Tryz.sizeOf5
  v5 := Tryz.zeroValue5
  t9 := Tryz.underlying9
  a9 := Tryz.isAgg9
  z9 := Tryz.sizeOf9
  v9 := Tryz.zeroValue9
  t20 := Tryz.underlying20
  a20 := Tryz.isAgg20
  z20 := Tryz.sizeOf20
  v20 := Tryz.zeroValue20
  t37 := Tryz.underlying102
  a37 := Tryz.isAgg102
  z37 := Tryz.sizeOf102
  v37 := Tryz.zeroValue102
  t46 := Tryz.underlying149
  a46 := Tryz.isAgg149
  z46 := Tryz.sizeOf149
  v46 := Tryz.zeroValue149
  t51 := Tryz.underlying200
  a51 := Tryz.isAgg200
  z51 := Tryz.sizeOf200
  v51 := Tryz.zeroValue200
  t53 := Tryz.underlying202
  a53 := Tryz.isAgg202
  z53 := Tryz.sizeOf202
  v53 := Tryz.zeroValue202
  t70 := Tryz.underlying103
  a70 := Tryz.isAgg103
  z70 := Tryz.sizeOf103
  v70 := Tryz.zeroValue103
  t72 := Tryz.underlying105
  a72 := Tryz.isAgg105
  z72 := Tryz.sizeOf105
  v72 := Tryz.zeroValue105
  t75 := Tryz.underlying151
  a75 := Tryz.isAgg151
  z75 := Tryz.sizeOf151
  v75 := Tryz.zeroValue151
  t76 := Tryz.underlying152
  a76 := Tryz.isAgg152
  z76 := Tryz.sizeOf152
  v76 := Tryz.zeroValue152
  t109 := Tryz.underlying209
  a109 := Tryz.isAgg209
  z109 := Tryz.sizeOf209
  v109 := Tryz.zeroValue209
  t127 := Tryz.underlying155
  a127 := Tryz.isAgg155
  z127 := Tryz.sizeOf155
  v127 := Tryz.zeroValue155
  t146 := Tryz.underlying226
  a146 := Tryz.isAgg226
  z146 := Tryz.sizeOf226
  v146 := Tryz.zeroValue226
  t148 := Tryz.underlying228
  a148 := Tryz.isAgg228
  z148 := Tryz.sizeOf228
  v148 := Tryz.zeroValue228
  t164 := Tryz.underlying224
  a164 := Tryz.isAgg224
  z164 := Tryz.sizeOf224
  v164 := Tryz.zeroValue224 }
theorem Tryz.Builder_Extra_105 : Builder.Extra Tryz.prog Tryz.lays105_ren := {
  sizeBuilder := by kernel_rfl
  liesBuilder := by kernel_rfl
  t5 := Tryz.underlying5
  a5 := Tryz.isAgg5
  z5 := Tryz.sizeOf5
  v5 := Tryz.zeroValue5
  infoByte := by kernel_rfl
  cellsByte := by kernel_rfl
  sizeByte := by kernel_rfl
  neB5 := by decide }
open Go.RowKit Go.Lib in
/-- **strings.Repeat: count ≥ 0, the result within one allocation: count copies of s.** (LAID: no walk: one application.) -/
theorem Tryz.strings_Repeat (s : ByteArray) (c : Nat) (w : World) (hc : c ≤ 9223372036854775807) (hlen : s.size * c ≤ 140737488355328) :
    Calls Tryz.prog 103 #[.string s, .int .i64 c] w fun e w' => e = .returned (.string ⟨(Lib.repeatL s.data.toList c).toArray⟩) ∧ Below w.heap.size w w' := Any.strings_Repeat Tryz.lays105 Tryz.Builder_Extra_105 s c w hc hlen
end Go.Proofs
