/-
  DERIVED: THE SHELF's CONTRACTS AT THIS DUMP, IN PLAIN WORDS (tools/lay-plain.mjs out of 'YtlmjidandjemjaaGreatDoorIterS.lean', which tools/lay-shelf.mjs wrote): THE SAME DECLARATIONS UNDER THE SAME NAMES: 'import', 'namespace', 'open', 'def', 'theorem' AND NOTHING ELSE: no command of the shelf's: FOR A HAND-IN. Each laying: the table of numbers ('.._ren') and one theorem, a field a fact of the dump's own or the kernel's comparison; each contract: ONE APPLICATION.
-/
import Derived.Shelf.SlIter.Nil
import Derived.Shelf.SortM.Plain
import Derived.Shelf.SortM.SortNone
import Derived.Ground.GgzProg
import Derived.Ground.SlgmProg
import Derived.Test.YtlmjidandjemjaaGreatDoorProg
namespace Go.Proofs
open Go.Shelf
def Tryz.keys133_ren : Go.Shelf.Ren := ⟨fun | 7 => 133 | 10 => 160 | n => n, fun | 23 => 142 | 26 => 9 | 3 => 9 | 28 => 161 | 0 => 0 | 27 => 160 | 33 => 36 | 4 => 4 | n => n, fun | n => n⟩
theorem Tryz.keys133 : Go.Proofs.SlLaysZ.n7 Tryz.prog Tryz.keys133_ren := {
  mixed := by kernel_rfl
  f7 := ⟨Tryz.f133.name, by decide, Tryz.func133.trans (congrArg some (by kernel_rfl))⟩
  f10 := ⟨Tryz.f160.name, by decide, Tryz.func160.trans (congrArg some (by kernel_rfl))⟩
  t0 := Tryz.underlying0
  a0 := Tryz.isAgg0
  z0 := Tryz.sizeOf0
  v0 := Tryz.zeroValue0
  t4 := Tryz.underlying4
  a4 := Tryz.isAgg4
  z4 := Tryz.sizeOf4
  v4 := Tryz.zeroValue4
  t23 := Tryz.underlying142
  a23 := Tryz.isAgg142
  z23 := Tryz.sizeOf142
  v23 := Tryz.zeroValue142
  t26 := Tryz.underlying9
  a26 := Tryz.isAgg9
  z26 := Tryz.sizeOf9
  v26 := Tryz.zeroValue9
  t27 := Tryz.underlying160
  a27 := Tryz.isAgg160
  z27 := Tryz.sizeOf160
  v27 := Tryz.zeroValue160
  t28 := Tryz.underlying161
  a28 := Tryz.isAgg161
  z28 := Tryz.sizeOf161
  v28 := Tryz.zeroValue161
  t33 := Tryz.underlying36
  a33 := Tryz.isAgg36
  z33 := Tryz.sizeOf36
  v33 := Tryz.zeroValue36 }
def Tryz.sorted132_ren : Go.Shelf.Ren := ⟨fun | 6 => 132 | 8 => 158 | 9 => 159 | 11 => 176 | 13 => 129 | 12 => 177 | 23 => 155 | 24 => 156 | 14 => 184 | 15 => 185 | 16 => 186 | 17 => 187 | 18 => 188 | 19 => 189 | 20 => 190 | 21 => 191 | 22 => 192 | 25 => 194 | 26 => 171 | 27 => 172 | 28 => 195 | 29 => 196 | 30 => 197 | 31 => 198 | n => n, fun | 26 => 9 | 28 => 161 | 24 => 22 | 0 => 0 | 3 => 3 | 37 => 158 | 48 => 184 | 50 => 186 | 4 => 4 | 40 => 176 | 39 => 175 | 45 => 181 | 5 => 5 | 9 => 9 | 51 => 190 | 55 => 194 | 57 => 206 | 58 => 49 | 33 => 36 | n => n, fun | n => n⟩
theorem Tryz.sorted132 : Go.Proofs.SlLaysZ.n6 Tryz.prog Tryz.sorted132_ren := {
  mixed := by kernel_rfl
  f6 := ⟨Tryz.f132.name, by decide, Tryz.func132.trans (congrArg some (by kernel_rfl))⟩
  f8 := ⟨Tryz.f158.name, by decide, Tryz.func158.trans (congrArg some (by kernel_rfl))⟩
  f11 := ⟨Tryz.f176.name, by decide, Tryz.func176.trans (congrArg some (by kernel_rfl))⟩
  t0 := Tryz.underlying0
  a0 := Tryz.isAgg0
  z0 := Tryz.sizeOf0
  v0 := Tryz.zeroValue0
  t24 := Tryz.underlying22
  a24 := Tryz.isAgg22
  z24 := Tryz.sizeOf22
  v24 := Tryz.zeroValue22
  t26 := Tryz.underlying9
  a26 := Tryz.isAgg9
  z26 := Tryz.sizeOf9
  v26 := Tryz.zeroValue9
  t28 := Tryz.underlying161
  a28 := Tryz.isAgg161
  z28 := Tryz.sizeOf161
  v28 := Tryz.zeroValue161
  i26 := by kernel_rfl }
def Tryz.sort159_ren : Go.Shelf.Ren := ⟨fun | 6 => 159 | 8 => 129 | 9 => 177 | 19 => 155 | 20 => 156 | 21 => 184 | 22 => 185 | 23 => 186 | 24 => 187 | 25 => 188 | 26 => 189 | 27 => 190 | 28 => 191 | 29 => 192 | 36 => 194 | 31 => 171 | 32 => 172 | 37 => 195 | 38 => 196 | 39 => 197 | 41 => 198 | n => n, fun | 27 => 22 | 29 => 9 | 3 => 3 | 32 => 158 | 26 => 22 | 0 => 0 | 44 => 184 | 46 => 186 | 4 => 4 | 36 => 176 | 35 => 175 | 41 => 181 | 5 => 5 | 9 => 9 | 53 => 190 | 57 => 194 | 63 => 206 | 64 => 49 | n => n, fun | n => n⟩
theorem Tryz.sort159 : Go.Proofs.SlLaysM.n6 Tryz.prog Tryz.sort159_ren := {
  mixed := by kernel_rfl
  f6 := ⟨Tryz.f159.name, by decide, Tryz.func159.trans (congrArg some (by kernel_rfl))⟩
  f8 := Tryz.func129.trans (congrArg some (by kernel_rfl))
  f9 := ⟨Tryz.f177.name, by decide, Tryz.func177.trans (congrArg some (by kernel_rfl))⟩
  f19 := Tryz.func155.trans (congrArg some (by kernel_rfl))
  f20 := Tryz.func156.trans (congrArg some (by kernel_rfl))
  f21 := ⟨Tryz.f184.name, by decide, Tryz.func184.trans (congrArg some (by kernel_rfl))⟩
  f22 := ⟨Tryz.f185.name, by decide, Tryz.func185.trans (congrArg some (by kernel_rfl))⟩
  f23 := ⟨Tryz.f186.name, by decide, Tryz.func186.trans (congrArg some (by kernel_rfl))⟩
  f24 := ⟨Tryz.f187.name, by decide, Tryz.func187.trans (congrArg some (by kernel_rfl))⟩
  f25 := ⟨Tryz.f188.name, by decide, Tryz.func188.trans (congrArg some (by kernel_rfl))⟩
  f26 := ⟨Tryz.f189.name, by decide, Tryz.func189.trans (congrArg some (by kernel_rfl))⟩
  f27 := ⟨Tryz.f190.name, by decide, Tryz.func190.trans (congrArg some (by kernel_rfl))⟩
  f28 := ⟨Tryz.f191.name, by decide, Tryz.func191.trans (congrArg some (by kernel_rfl))⟩
  f29 := ⟨Tryz.f192.name, by decide, Tryz.func192.trans (congrArg some (by kernel_rfl))⟩
  f31 := Tryz.func171.trans (congrArg some (by kernel_rfl))
  f32 := Tryz.func172.trans (congrArg some (by kernel_rfl))
  f36 := ⟨Tryz.f194.name, by decide, Tryz.func194.trans (congrArg some (by kernel_rfl))⟩
  f37 := ⟨Tryz.f195.name, by decide, Tryz.func195.trans (congrArg some (by kernel_rfl))⟩
  f38 := ⟨Tryz.f196.name, by decide, Tryz.func196.trans (congrArg some (by kernel_rfl))⟩
  f39 := ⟨Tryz.f197.name, by decide, Tryz.func197.trans (congrArg some (by kernel_rfl))⟩
  f41 := ⟨Tryz.f198.name, by decide, Tryz.func198.trans (congrArg some (by kernel_rfl))⟩
  t0 := Tryz.underlying0
  a0 := Tryz.isAgg0
  z0 := Tryz.sizeOf0
  v0 := Tryz.zeroValue0
  t3 := Tryz.underlying3
  a3 := Tryz.isAgg3
  z3 := Tryz.sizeOf3
  v3 := Tryz.zeroValue3
  t4 := Tryz.underlying4
  a4 := Tryz.isAgg4
  z4 := Tryz.sizeOf4
  v4 := Tryz.zeroValue4
  t5 := Tryz.underlying5
  a5 := Tryz.isAgg5
  z5 := Tryz.sizeOf5
  v5 := Tryz.zeroValue5
  t9 := Tryz.underlying9
  a9 := Tryz.isAgg9
  z9 := Tryz.sizeOf9
  v9 := Tryz.zeroValue9
  t26 := Tryz.underlying22
  a26 := Tryz.isAgg22
  z26 := Tryz.sizeOf22
  v26 := Tryz.zeroValue22
  t27 := Tryz.underlying22
  a27 := Tryz.isAgg22
  z27 := Tryz.sizeOf22
  v27 := Tryz.zeroValue22
  t29 := Tryz.underlying9
  a29 := Tryz.isAgg9
  z29 := Tryz.sizeOf9
  v29 := Tryz.zeroValue9
  t32 := Tryz.underlying158
  a32 := Tryz.isAgg158
  z32 := Tryz.sizeOf158
  v32 := Tryz.zeroValue158
  t35 := Tryz.underlying175
  a35 := Tryz.isAgg175
  z35 := Tryz.sizeOf175
  v35 := Tryz.zeroValue175
  t36 := Tryz.underlying176
  a36 := Tryz.isAgg176
  z36 := Tryz.sizeOf176
  v36 := Tryz.zeroValue176
  t41 := Tryz.underlying181
  a41 := Tryz.isAgg181
  z41 := Tryz.sizeOf181
  v41 := Tryz.zeroValue181
  t44 := Tryz.underlying184
  a44 := Tryz.isAgg184
  z44 := Tryz.sizeOf184
  v44 := Tryz.zeroValue184
  t46 := Tryz.underlying186
  a46 := Tryz.isAgg186
  z46 := Tryz.sizeOf186
  v46 := Tryz.zeroValue186
  t53 := Tryz.underlying190
  a53 := Tryz.isAgg190
  z53 := Tryz.sizeOf190
  v53 := Tryz.zeroValue190
  t57 := Tryz.underlying194
  a57 := Tryz.isAgg194
  z57 := Tryz.sizeOf194
  v57 := Tryz.zeroValue194
  t63 := Tryz.underlying206
  a63 := Tryz.isAgg206
  z63 := Tryz.sizeOf206
  v63 := Tryz.zeroValue206
  t64 := Tryz.underlying49
  a64 := Tryz.isAgg49
  z64 := Tryz.sizeOf49
  v64 := Tryz.zeroValue49 }
open Go.RowKit Go.Maps Go.Sort in
/-- slices.Sort's two contracts at this dump, at the fence that asks nothing. -/
theorem Tryz.sorts132 (m : Nat) : AnyZ.SortsIn Tryz.prog Tryz.sorted132_ren Fence.wide m :=
  ⟨fun blk off cap ss W hH hblk hsz => callsIn_wide.2 (AnyM.slices_Sort_string Tryz.sort159 blk off cap ss W hH hblk hsz),
   fun p cap W => callsIn_wide.2 (AnyM.slices_Sort_string_none Tryz.sort159 p cap W)⟩
open Go.RowKit Go.Maps Go.Sort in
/-- **maps.Keys[map[string]string,string,string], at whatever map, the nil one too:** a function value over ONE NEW BLOCK, which holds the map. -/
theorem Tryz.maps_Keys_133 (mb : Option Nat) (W : World) : CallsIn Fence.wide 5 Tryz.prog 133 #[.map mb] W fun e w' => e = .returned (.func (.func 160) #[] #[.pointer (some ⟨W.heap.size, 0, none⟩)]) ∧ w' = W.alloc (.cells #[.map mb] 142) :=
  AnyZ.keys_in Tryz.keys133 Fence.wide 5 trivial rfl mb W

set_option maxHeartbeats 1000000 in
open Go.RowKit Go.Maps Go.Sort in
/-- **slices.Sorted[string] AT WHAT maps.Keys[map[string]string,string,string] HANDED BACK FOR A MAP THAT IS NOT nil** ('w': the world AHEAD of maps.Keys' call): A NEW SLICE THAT HOLDS THE MAP's KEYS, SORTED; nil just where it has none; nothing that lay before has turned. -/
theorem Tryz.slices_Sorted_keys_132_133 {H : Type} (b nn : Nat) (D0 : DataW H) (R : Value → Option (DataW H × List MemPlace)) (w : World) (hown : w.ownsMap Tryz.prog 9 R b nn D0) (hmax : Maps.size D0 ≤ maxLen) (hbytes : Maps.size D0 * 16 ≤ 140737488355328) :
    CallsIn Fence.wide 5 Tryz.prog 132 #[.func (.func 160) #[] #[.pointer (some ⟨w.heap.size, 0, none⟩)]] (w.alloc (.cells #[.map (some b)] 142)) fun e w' => ∃ (v : Value) (ss : List (List UInt8)), e = .returned v ∧ ss.Perm (strKeys D0) ∧
      w'.ownsRow (w.alloc (.cells #[.map (some b)] 142)).heap.size 9 1 v ss.length ((ss.mergeSort (fun x y => decide (x ≤ y))).map encStr) ∧ (v = .slice none 0 0 ↔ ss = []) ∧ Below (w.alloc (.cells #[.map (some b)] 142)).heap.size (w.alloc (.cells #[.map (some b)] 142)) w' := by
  have hbl := hown.lt
  have hseq : SeqGives Fence.wide 2 Tryz.prog 160 #[.pointer (some ⟨w.heap.size, 0, none⟩)] encStr (fun ss => ss.Perm (strKeys D0)) (Maps.size D0) (w.alloc (.cells #[.map (some b)] 142)) :=
    AnyZ.keys_gives (ρ := Tryz.keys133_ren) { Tryz.keys133 with } Fence.wide _ trivial rfl (by omega) w.heap.size b nn D0 _ (by simp) (by simp) (by
      obtain ⟨es, clock, hb, Ft, hs, hD⟩ := hown
      exact ⟨es, clock, (Below.heap_alloc _ _ b hbl).trans hb, Ft, hs, hD⟩)
  exact AnyZ.sorted_in Tryz.sorted132 Fence.wide 5 trivial trivial trivial trivial rfl (by omega) (Tryz.sorts132 _) (enters_of Tryz.func159 (by kernel_rfl) rfl) 160 #[.pointer (some ⟨w.heap.size, 0, none⟩)] trivial (enters_of Tryz.func160 (by kernel_rfl) rfl) _ _ hmax hbytes _ hseq

set_option maxHeartbeats 1000000 in
open Go.RowKit Go.Maps Go.Sort in
/-- **.. AND FOR THE nil MAP: nil.** -/
theorem Tryz.slices_Sorted_keys_nil_132_133 (w : World) :
    CallsIn Fence.wide 5 Tryz.prog 132 #[.func (.func 160) #[] #[.pointer (some ⟨w.heap.size, 0, none⟩)]] (w.alloc (.cells #[.map none] 142)) fun e w' => ∃ (v : Value) (ss : List (List UInt8)), e = .returned v ∧ ss = [] ∧
      w'.ownsRow (w.alloc (.cells #[.map none] 142)).heap.size 9 1 v ss.length ((ss.mergeSort (fun x y => decide (x ≤ y))).map encStr) ∧ (v = .slice none 0 0 ↔ ss = []) ∧ Below (w.alloc (.cells #[.map none] 142)).heap.size (w.alloc (.cells #[.map none] 142)) w' := by
  have hseq : SeqGives Fence.wide 2 Tryz.prog 160 #[.pointer (some ⟨w.heap.size, 0, none⟩)] encStr (fun ss : List (List UInt8) => ss = []) 0 (w.alloc (.cells #[.map none] 142)) :=
    AnyZ.keys_gives_nil (ρ := Tryz.keys133_ren) { Tryz.keys133 with } Fence.wide _ trivial rfl w.heap.size _ (by simp) (by simp)
  exact AnyZ.sorted_in Tryz.sorted132 Fence.wide 5 trivial trivial trivial trivial rfl (by omega) (Tryz.sorts132 _) (enters_of Tryz.func159 (by kernel_rfl) rfl) 160 #[.pointer (some ⟨w.heap.size, 0, none⟩)] trivial (enters_of Tryz.func160 (by kernel_rfl) rfl) _ 0 (Nat.zero_le _) (by omega) _ hseq
def Tryz.keys139_ren : Go.Shelf.Ren := ⟨fun | 7 => 139 | 10 => 163 | n => n, fun | 23 => 135 | 26 => 9 | 3 => 44 | 28 => 161 | 0 => 0 | 27 => 160 | 33 => 36 | 4 => 4 | n => n, fun | n => n⟩
theorem Tryz.keys139 : Go.Proofs.SlLaysZ.n7 Tryz.prog Tryz.keys139_ren := {
  mixed := by kernel_rfl
  f7 := ⟨Tryz.f139.name, by decide, Tryz.func139.trans (congrArg some (by kernel_rfl))⟩
  f10 := ⟨Tryz.f163.name, by decide, Tryz.func163.trans (congrArg some (by kernel_rfl))⟩
  t0 := Tryz.underlying0
  a0 := Tryz.isAgg0
  z0 := Tryz.sizeOf0
  v0 := Tryz.zeroValue0
  t4 := Tryz.underlying4
  a4 := Tryz.isAgg4
  z4 := Tryz.sizeOf4
  v4 := Tryz.zeroValue4
  t23 := Tryz.underlying135
  a23 := Tryz.isAgg135
  z23 := Tryz.sizeOf135
  v23 := Tryz.zeroValue135
  t26 := Tryz.underlying9
  a26 := Tryz.isAgg9
  z26 := Tryz.sizeOf9
  v26 := Tryz.zeroValue9
  t27 := Tryz.underlying160
  a27 := Tryz.isAgg160
  z27 := Tryz.sizeOf160
  v27 := Tryz.zeroValue160
  t28 := Tryz.underlying161
  a28 := Tryz.isAgg161
  z28 := Tryz.sizeOf161
  v28 := Tryz.zeroValue161
  t33 := Tryz.underlying36
  a33 := Tryz.isAgg36
  z33 := Tryz.sizeOf36
  v33 := Tryz.zeroValue36 }
open Go.RowKit Go.Maps Go.Sort in
/-- **maps.Keys[map[string]whelk/state.Var,string,whelk/state.Var], at whatever map, the nil one too:** a function value over ONE NEW BLOCK, which holds the map. -/
theorem Tryz.maps_Keys_139 (mb : Option Nat) (W : World) : CallsIn Fence.wide 5 Tryz.prog 139 #[.map mb] W fun e w' => e = .returned (.func (.func 163) #[] #[.pointer (some ⟨W.heap.size, 0, none⟩)]) ∧ w' = W.alloc (.cells #[.map mb] 135) :=
  AnyZ.keys_in Tryz.keys139 Fence.wide 5 trivial rfl mb W

set_option maxHeartbeats 1000000 in
open Go.RowKit Go.Maps Go.Sort in
/-- **slices.Sorted[string] AT WHAT maps.Keys[map[string]whelk/state.Var,string,whelk/state.Var] HANDED BACK FOR A MAP THAT IS NOT nil** ('w': the world AHEAD of maps.Keys' call): A NEW SLICE THAT HOLDS THE MAP's KEYS, SORTED; nil just where it has none; nothing that lay before has turned. -/
theorem Tryz.slices_Sorted_keys_132_139 {H : Type} (b nn : Nat) (D0 : DataW H) (R : Value → Option (DataW H × List MemPlace)) (w : World) (hown : w.ownsMap Tryz.prog 9 R b nn D0) (hmax : Maps.size D0 ≤ maxLen) (hbytes : Maps.size D0 * 16 ≤ 140737488355328) :
    CallsIn Fence.wide 5 Tryz.prog 132 #[.func (.func 163) #[] #[.pointer (some ⟨w.heap.size, 0, none⟩)]] (w.alloc (.cells #[.map (some b)] 135)) fun e w' => ∃ (v : Value) (ss : List (List UInt8)), e = .returned v ∧ ss.Perm (strKeys D0) ∧
      w'.ownsRow (w.alloc (.cells #[.map (some b)] 135)).heap.size 9 1 v ss.length ((ss.mergeSort (fun x y => decide (x ≤ y))).map encStr) ∧ (v = .slice none 0 0 ↔ ss = []) ∧ Below (w.alloc (.cells #[.map (some b)] 135)).heap.size (w.alloc (.cells #[.map (some b)] 135)) w' := by
  have hbl := hown.lt
  have hseq : SeqGives Fence.wide 2 Tryz.prog 163 #[.pointer (some ⟨w.heap.size, 0, none⟩)] encStr (fun ss => ss.Perm (strKeys D0)) (Maps.size D0) (w.alloc (.cells #[.map (some b)] 135)) :=
    AnyZ.keys_gives (ρ := Tryz.keys139_ren) { Tryz.keys139 with } Fence.wide _ trivial rfl (by omega) w.heap.size b nn D0 _ (by simp) (by simp) (by
      obtain ⟨es, clock, hb, Ft, hs, hD⟩ := hown
      exact ⟨es, clock, (Below.heap_alloc _ _ b hbl).trans hb, Ft, hs, hD⟩)
  exact AnyZ.sorted_in Tryz.sorted132 Fence.wide 5 trivial trivial trivial trivial rfl (by omega) (Tryz.sorts132 _) (enters_of Tryz.func159 (by kernel_rfl) rfl) 163 #[.pointer (some ⟨w.heap.size, 0, none⟩)] trivial (enters_of Tryz.func163 (by kernel_rfl) rfl) _ _ hmax hbytes _ hseq

set_option maxHeartbeats 1000000 in
open Go.RowKit Go.Maps Go.Sort in
/-- **.. AND FOR THE nil MAP: nil.** -/
theorem Tryz.slices_Sorted_keys_nil_132_139 (w : World) :
    CallsIn Fence.wide 5 Tryz.prog 132 #[.func (.func 163) #[] #[.pointer (some ⟨w.heap.size, 0, none⟩)]] (w.alloc (.cells #[.map none] 135)) fun e w' => ∃ (v : Value) (ss : List (List UInt8)), e = .returned v ∧ ss = [] ∧
      w'.ownsRow (w.alloc (.cells #[.map none] 135)).heap.size 9 1 v ss.length ((ss.mergeSort (fun x y => decide (x ≤ y))).map encStr) ∧ (v = .slice none 0 0 ↔ ss = []) ∧ Below (w.alloc (.cells #[.map none] 135)).heap.size (w.alloc (.cells #[.map none] 135)) w' := by
  have hseq : SeqGives Fence.wide 2 Tryz.prog 163 #[.pointer (some ⟨w.heap.size, 0, none⟩)] encStr (fun ss : List (List UInt8) => ss = []) 0 (w.alloc (.cells #[.map none] 135)) :=
    AnyZ.keys_gives_nil (ρ := Tryz.keys139_ren) { Tryz.keys139 with } Fence.wide _ trivial rfl w.heap.size _ (by simp) (by simp)
  exact AnyZ.sorted_in Tryz.sorted132 Fence.wide 5 trivial trivial trivial trivial rfl (by omega) (Tryz.sorts132 _) (enters_of Tryz.func159 (by kernel_rfl) rfl) 163 #[.pointer (some ⟨w.heap.size, 0, none⟩)] trivial (enters_of Tryz.func163 (by kernel_rfl) rfl) _ 0 (Nat.zero_le _) (by omega) _ hseq
end Go.Proofs
