/-
  DERIVED: THE SHELF's CONTRACTS AT THIS DUMP, IN PLAIN WORDS (tools/lay-plain.mjs out of 'YteienbdbhnikbaaGreatDoorItiS.lean', which tools/lay-shelf.mjs wrote): THE SAME DECLARATIONS UNDER THE SAME NAMES: 'import', 'namespace', 'open', 'def', 'theorem' AND NOTHING ELSE: no command of the shelf's: FOR A HAND-IN. Each laying: the table of numbers ('.._ren') and one theorem, a field a fact of the dump's own or the kernel's comparison; each contract: ONE APPLICATION.
-/
import Derived.Shelf.SlIterI.Nil
import Derived.Shelf.SortM.Plain
import Derived.Shelf.SortM.SortNone
import Derived.Ground.GgzProg
import Derived.Ground.SlgmProg
import Derived.Test.YteienbdbhnikbaaGreatDoorProg
namespace Go.Proofs
open Go.Shelf
def Tryz.keys58_ren : Go.Shelf.Ren := ⟨fun | 7 => 58 | 10 => 79 | n => n, fun | 23 => 101 | 26 => 3 | 3 => 102 | 28 => 99 | 0 => 0 | 27 => 98 | 33 => 158 | 4 => 4 | n => n, fun | n => n⟩
theorem Tryz.keys58 : Go.Proofs.SlLaysZI.n7 Tryz.prog Tryz.keys58_ren := {
  mixed := by kernel_rfl
  f7 := ⟨Tryz.f58.name, by decide, Tryz.func58.trans (congrArg some (by kernel_rfl))⟩
  f10 := ⟨Tryz.f79.name, by decide, Tryz.func79.trans (congrArg some (by kernel_rfl))⟩
  t0 := Tryz.underlying0
  a0 := Tryz.isAgg0
  z0 := Tryz.sizeOf0
  v0 := Tryz.zeroValue0
  t4 := Tryz.underlying4
  a4 := Tryz.isAgg4
  z4 := Tryz.sizeOf4
  v4 := Tryz.zeroValue4
  t23 := Tryz.underlying101
  a23 := Tryz.isAgg101
  z23 := Tryz.sizeOf101
  v23 := Tryz.zeroValue101
  t26 := Tryz.underlying3
  a26 := Tryz.isAgg3
  z26 := Tryz.sizeOf3
  v26 := Tryz.zeroValue3
  t27 := Tryz.underlying98
  a27 := Tryz.isAgg98
  z27 := Tryz.sizeOf98
  v27 := Tryz.zeroValue98
  t28 := Tryz.underlying99
  a28 := Tryz.isAgg99
  z28 := Tryz.sizeOf99
  v28 := Tryz.zeroValue99
  t33 := Tryz.underlying158
  a33 := Tryz.isAgg158
  z33 := Tryz.sizeOf158
  v33 := Tryz.zeroValue158 }
def Tryz.sorted57_ren : Go.Shelf.Ren := ⟨fun | 6 => 57 | 8 => 77 | 9 => 78 | 11 => 88 | 13 => 90 | 12 => 89 | 23 => 110 | 24 => 111 | 14 => 101 | 15 => 102 | 16 => 103 | 17 => 104 | 18 => 105 | 19 => 106 | 20 => 107 | 21 => 108 | 22 => 109 | 25 => 118 | 26 => 119 | 27 => 120 | 28 => 121 | 29 => 122 | 30 => 123 | 31 => 131 | n => n, fun | 26 => 3 | 28 => 99 | 24 => 44 | 0 => 0 | 3 => 3 | 37 => 174 | 48 => 190 | 50 => 192 | 4 => 4 | 40 => 184 | 39 => 183 | 45 => 42 | 5 => 5 | 9 => 9 | 51 => 198 | 55 => 145 | 57 => 205 | 58 => 206 | 33 => 158 | n => n, fun | n => n⟩
theorem Tryz.sorted57 : Go.Proofs.SlLaysZI.n6 Tryz.prog Tryz.sorted57_ren := {
  mixed := by kernel_rfl
  f6 := ⟨Tryz.f57.name, by decide, Tryz.func57.trans (congrArg some (by kernel_rfl))⟩
  f8 := ⟨Tryz.f77.name, by decide, Tryz.func77.trans (congrArg some (by kernel_rfl))⟩
  f11 := ⟨Tryz.f88.name, by decide, Tryz.func88.trans (congrArg some (by kernel_rfl))⟩
  t0 := Tryz.underlying0
  a0 := Tryz.isAgg0
  z0 := Tryz.sizeOf0
  v0 := Tryz.zeroValue0
  t24 := Tryz.underlying44
  a24 := Tryz.isAgg44
  z24 := Tryz.sizeOf44
  v24 := Tryz.zeroValue44
  t26 := Tryz.underlying3
  a26 := Tryz.isAgg3
  z26 := Tryz.sizeOf3
  v26 := Tryz.zeroValue3
  t28 := Tryz.underlying99
  a28 := Tryz.isAgg99
  z28 := Tryz.sizeOf99
  v28 := Tryz.zeroValue99
  i26 := by kernel_rfl }
def Tryz.sort78_ren : Go.Shelf.Ren := ⟨fun | 5 => 78 | 8 => 90 | 7 => 89 | 19 => 110 | 20 => 111 | 10 => 101 | 11 => 102 | 12 => 103 | 13 => 104 | 14 => 105 | 15 => 106 | 16 => 107 | 17 => 108 | 18 => 109 | 30 => 118 | 31 => 119 | 32 => 120 | 33 => 121 | 34 => 122 | 35 => 123 | 40 => 131 | n => n, fun | 23 => 44 | 25 => 3 | 3 => 3 | 32 => 174 | 22 => 44 | 0 => 0 | 44 => 190 | 46 => 192 | 4 => 4 | 36 => 184 | 35 => 183 | 41 => 42 | 5 => 5 | 9 => 9 | 53 => 198 | 57 => 145 | 63 => 205 | 64 => 206 | n => n, fun | n => n⟩
theorem Tryz.sort78 : Go.Proofs.SlLaysM.n5 Tryz.prog Tryz.sort78_ren := {
  mixed := by kernel_rfl
  f5 := ⟨Tryz.f78.name, by decide, Tryz.func78.trans (congrArg some (by kernel_rfl))⟩
  f7 := ⟨Tryz.f89.name, by decide, Tryz.func89.trans (congrArg some (by kernel_rfl))⟩
  f8 := Tryz.func90.trans (congrArg some (by kernel_rfl))
  f10 := ⟨Tryz.f101.name, by decide, Tryz.func101.trans (congrArg some (by kernel_rfl))⟩
  f11 := ⟨Tryz.f102.name, by decide, Tryz.func102.trans (congrArg some (by kernel_rfl))⟩
  f12 := ⟨Tryz.f103.name, by decide, Tryz.func103.trans (congrArg some (by kernel_rfl))⟩
  f13 := ⟨Tryz.f104.name, by decide, Tryz.func104.trans (congrArg some (by kernel_rfl))⟩
  f14 := ⟨Tryz.f105.name, by decide, Tryz.func105.trans (congrArg some (by kernel_rfl))⟩
  f15 := ⟨Tryz.f106.name, by decide, Tryz.func106.trans (congrArg some (by kernel_rfl))⟩
  f16 := ⟨Tryz.f107.name, by decide, Tryz.func107.trans (congrArg some (by kernel_rfl))⟩
  f17 := ⟨Tryz.f108.name, by decide, Tryz.func108.trans (congrArg some (by kernel_rfl))⟩
  f18 := ⟨Tryz.f109.name, by decide, Tryz.func109.trans (congrArg some (by kernel_rfl))⟩
  f19 := Tryz.func110.trans (congrArg some (by kernel_rfl))
  f20 := Tryz.func111.trans (congrArg some (by kernel_rfl))
  f30 := ⟨Tryz.f118.name, by decide, Tryz.func118.trans (congrArg some (by kernel_rfl))⟩
  f31 := Tryz.func119.trans (congrArg some (by kernel_rfl))
  f32 := Tryz.func120.trans (congrArg some (by kernel_rfl))
  f33 := ⟨Tryz.f121.name, by decide, Tryz.func121.trans (congrArg some (by kernel_rfl))⟩
  f34 := ⟨Tryz.f122.name, by decide, Tryz.func122.trans (congrArg some (by kernel_rfl))⟩
  f35 := ⟨Tryz.f123.name, by decide, Tryz.func123.trans (congrArg some (by kernel_rfl))⟩
  f40 := ⟨Tryz.f131.name, by decide, Tryz.func131.trans (congrArg some (by kernel_rfl))⟩
  t0 := Tryz.underlying0
  a0 := Tryz.isAgg0
  z0 := Tryz.sizeOf0
  v0 := Tryz.zeroValue0
  t3 := Tryz.underlying3
  a3 := Tryz.isAgg3
  z3 := Tryz.sizeOf3
  v3 := Tryz.zeroValue3
  t4 := Tryz.underlying4
  a4 := Tryz.isAgg4
  z4 := Tryz.sizeOf4
  v4 := Tryz.zeroValue4
  t5 := Tryz.underlying5
  a5 := Tryz.isAgg5
  z5 := Tryz.sizeOf5
  v5 := Tryz.zeroValue5
  t9 := Tryz.underlying9
  a9 := Tryz.isAgg9
  z9 := Tryz.sizeOf9
  v9 := Tryz.zeroValue9
  t22 := Tryz.underlying44
  a22 := Tryz.isAgg44
  z22 := Tryz.sizeOf44
  v22 := Tryz.zeroValue44
  t23 := Tryz.underlying44
  a23 := Tryz.isAgg44
  z23 := Tryz.sizeOf44
  v23 := Tryz.zeroValue44
  t25 := Tryz.underlying3
  a25 := Tryz.isAgg3
  z25 := Tryz.sizeOf3
  v25 := Tryz.zeroValue3
  t32 := Tryz.underlying174
  a32 := Tryz.isAgg174
  z32 := Tryz.sizeOf174
  v32 := Tryz.zeroValue174
  t35 := Tryz.underlying183
  a35 := Tryz.isAgg183
  z35 := Tryz.sizeOf183
  v35 := Tryz.zeroValue183
  t36 := Tryz.underlying184
  a36 := Tryz.isAgg184
  z36 := Tryz.sizeOf184
  v36 := Tryz.zeroValue184
  t41 := Tryz.underlying42
  a41 := Tryz.isAgg42
  z41 := Tryz.sizeOf42
  v41 := Tryz.zeroValue42
  t44 := Tryz.underlying190
  a44 := Tryz.isAgg190
  z44 := Tryz.sizeOf190
  v44 := Tryz.zeroValue190
  t46 := Tryz.underlying192
  a46 := Tryz.isAgg192
  z46 := Tryz.sizeOf192
  v46 := Tryz.zeroValue192
  t53 := Tryz.underlying198
  a53 := Tryz.isAgg198
  z53 := Tryz.sizeOf198
  v53 := Tryz.zeroValue198
  t57 := Tryz.underlying145
  a57 := Tryz.isAgg145
  z57 := Tryz.sizeOf145
  v57 := Tryz.zeroValue145
  t63 := Tryz.underlying205
  a63 := Tryz.isAgg205
  z63 := Tryz.sizeOf205
  v63 := Tryz.zeroValue205
  t64 := Tryz.underlying206
  a64 := Tryz.isAgg206
  z64 := Tryz.sizeOf206
  v64 := Tryz.zeroValue206 }
open Go.RowKit Go.Maps Go.Sort in
/-- slices.Sort's two contracts at this dump, at the fence that asks nothing. -/
theorem Tryz.sorts57 (m : Nat) : AnyZI.SortsIn Tryz.prog Tryz.sorted57_ren Fence.wide m :=
  ⟨fun blk off cap ss W hH hblk hsz => callsIn_wide.2 (AnyM.slices_Sort_int Tryz.sort78 blk off cap ss W hH hblk hsz),
   fun p cap W => callsIn_wide.2 (AnyM.slices_Sort_int_none Tryz.sort78 p cap W)⟩
open Go.RowKit Go.Maps Go.Sort in
/-- **maps.Keys[map[int]*whelk/handles.handle,int,*whelk/handles.handle], at whatever map, the nil one too:** a function value over ONE NEW BLOCK, which holds the map. -/
theorem Tryz.maps_Keys_58 (mb : Option Nat) (W : World) : CallsIn Fence.wide 5 Tryz.prog 58 #[.map mb] W fun e w' => e = .returned (.func (.func 79) #[] #[.pointer (some ⟨W.heap.size, 0, none⟩)]) ∧ w' = W.alloc (.cells #[.map mb] 101) :=
  AnyZI.keys_in Tryz.keys58 Fence.wide 5 trivial rfl mb W

set_option maxHeartbeats 1000000 in
open Go.RowKit Go.Maps Go.Sort in
/-- **slices.Sorted[int] AT WHAT maps.Keys[map[int]*whelk/handles.handle,int,*whelk/handles.handle] HANDED BACK FOR A MAP THAT IS NOT nil** ('w': the world AHEAD of maps.Keys' call): A NEW SLICE THAT HOLDS THE MAP's KEYS, SORTED; nil just where it has none; nothing that lay before has turned. -/
theorem Tryz.slices_Sorted_keys_57_58 {H : Type} (b nn : Nat) (D0 : DataW H) (R : Value → Option (DataW H × List MemPlace)) (w : World) (hown : w.ownsMap Tryz.prog 3 R b nn D0) (hmax : Maps.size D0 ≤ maxLen) (hbytes : Maps.size D0 * 8 ≤ 140737488355328) :
    CallsIn Fence.wide 5 Tryz.prog 57 #[.func (.func 79) #[] #[.pointer (some ⟨w.heap.size, 0, none⟩)]] (w.alloc (.cells #[.map (some b)] 101)) fun e w' => ∃ (v : Value) (ss : List Int), e = .returned v ∧ ss.Perm (intKeys D0) ∧
      w'.ownsRow (w.alloc (.cells #[.map (some b)] 101)).heap.size 3 1 v ss.length ((ss.mergeSort (fun x y => decide (x ≤ y))).map encZ) ∧ (v = .slice none 0 0 ↔ ss = []) ∧ Below (w.alloc (.cells #[.map (some b)] 101)).heap.size (w.alloc (.cells #[.map (some b)] 101)) w' := by
  have hbl := hown.lt
  have hseq : SeqGives Fence.wide 2 Tryz.prog 79 #[.pointer (some ⟨w.heap.size, 0, none⟩)] encZ (fun ss => ss.Perm (intKeys D0)) (Maps.size D0) (w.alloc (.cells #[.map (some b)] 101)) :=
    AnyZI.keys_gives (ρ := Tryz.keys58_ren) { Tryz.keys58 with } Fence.wide _ trivial rfl (by omega) w.heap.size b nn D0 _ (by simp) (by simp) (by
      obtain ⟨es, clock, hb, Ft, hs, hD⟩ := hown
      exact ⟨es, clock, (Below.heap_alloc _ _ b hbl).trans hb, Ft, hs, hD⟩)
  exact AnyZI.sorted_in Tryz.sorted57 Fence.wide 5 trivial trivial trivial trivial rfl (by omega) (Tryz.sorts57 _) (enters_of Tryz.func78 (by kernel_rfl) rfl) 79 #[.pointer (some ⟨w.heap.size, 0, none⟩)] trivial (enters_of Tryz.func79 (by kernel_rfl) rfl) _ _ hmax hbytes _ hseq

set_option maxHeartbeats 1000000 in
open Go.RowKit Go.Maps Go.Sort in
/-- **.. AND FOR THE nil MAP: nil.** -/
theorem Tryz.slices_Sorted_keys_nil_57_58 (w : World) :
    CallsIn Fence.wide 5 Tryz.prog 57 #[.func (.func 79) #[] #[.pointer (some ⟨w.heap.size, 0, none⟩)]] (w.alloc (.cells #[.map none] 101)) fun e w' => ∃ (v : Value) (ss : List Int), e = .returned v ∧ ss = [] ∧
      w'.ownsRow (w.alloc (.cells #[.map none] 101)).heap.size 3 1 v ss.length ((ss.mergeSort (fun x y => decide (x ≤ y))).map encZ) ∧ (v = .slice none 0 0 ↔ ss = []) ∧ Below (w.alloc (.cells #[.map none] 101)).heap.size (w.alloc (.cells #[.map none] 101)) w' := by
  have hseq : SeqGives Fence.wide 2 Tryz.prog 79 #[.pointer (some ⟨w.heap.size, 0, none⟩)] encZ (fun ss : List Int => ss = []) 0 (w.alloc (.cells #[.map none] 101)) :=
    AnyZI.keys_gives_nil (ρ := Tryz.keys58_ren) { Tryz.keys58 with } Fence.wide _ trivial rfl w.heap.size _ (by simp) (by simp)
  exact AnyZI.sorted_in Tryz.sorted57 Fence.wide 5 trivial trivial trivial trivial rfl (by omega) (Tryz.sorts57 _) (enters_of Tryz.func78 (by kernel_rfl) rfl) 79 #[.pointer (some ⟨w.heap.size, 0, none⟩)] trivial (enters_of Tryz.func79 (by kernel_rfl) rfl) _ 0 (Nat.zero_le _) (by omega) _ hseq
end Go.Proofs
