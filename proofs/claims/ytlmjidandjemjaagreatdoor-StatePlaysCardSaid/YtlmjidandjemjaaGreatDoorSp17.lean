/- HandlesPlays, part 17 of 29: the texts StSp StSq, joined by a program. -/
import Derived.Test.YtlmjidandjemjaaGreatDoorSp16
import Derived.Lib.ReplaceLaws
namespace Go.Proofs.YtlmjidandjemjaaGreatDoor.State
open Go.RowKit Go.Proofs.YtlmjidandjemjaaGreatDoor Go.Proofs.YtlmjidandjemjaaGreatDoor.Hp Go.Proofs.YtlmjidandjemjaaGreatDoor.Undo
set_option linter.unusedVariables false
attribute [local go_sem] Oper.semAt_some

open Now (optL optS)
def subs : List UInt8 → List (List UInt8)
  | [] => [[]]
  | x :: l => subs l ++ (subs l).map (x :: ·)
theorem filter_subs (p : UInt8 → Bool) : ∀ l : List UInt8, l.filter p ∈ subs l
  | [] => List.mem_singleton.2 rfl
  | x :: l => by
    unfold subs
    rw [List.mem_append]
    cases h : p x with
    | true => right; rw [List.filter_cons_of_pos h]; exact List.mem_map.2 ⟨_, filter_subs p l, rfl⟩
    | false => left; rw [List.filter_cons_of_neg (by rw [h]; decide)]; exact filter_subs p l
/-- Options as they stand: each once, rising. -/
def OOk (o : ByteArray) : Prop := bs o = optL.filter fun c => decide (c ∈ bs o)
theorem OOk.subs {o : ByteArray} (h : OOk o) : bs o ∈ subs optL := by
  rw [h]; exact filter_subs _ _
theorem opt_rest : ∀ l ∈ subs optL, ∀ b ∈ optL, Lib.replaceAll l [b] [] = optS l b false := by decide +kernel
theorem opt_perm : ∀ l ∈ subs optL, ∀ b ∈ optL, ((optS l b true).map fun c => (c.toNat : Int)).isPerm ((optS l b false ++ [b]).map fun c => (c.toNat : Int)) = true := by decide +kernel
theorem opt_rise : ∀ l ∈ subs optL, ∀ b ∈ optL, ((optS l b true).map fun c => (c.toNat : Int)).Pairwise (· ≤ ·) := by decide +kernel
theorem opt_len : ∀ l ∈ subs optL, ∀ b ∈ optL, (optS l b true).length = (optS l b false).length + 1 ∧ (optS l b true).length ≤ 6 ∧ l.length ≤ 6 := by decide +kernel
theorem optS_ok (l : List UInt8) (b : UInt8) (on : Bool) : OOk ⟨(optS l b on).toArray⟩ := by
  unfold OOk
  rw [bs_mk]
  show optL.filter _ = _
  have h : ∀ c ∈ optL, (if c = b then on else decide (c ∈ l)) = decide (c ∈ optS l b on) := by
    intro c hc
    unfold optS
    rw [Bool.eq_iff_iff, decide_eq_true_eq, List.mem_filter]
    exact ⟨fun h => ⟨hc, h⟩, fun h => h.2⟩
  exact List.filter_congr h
/-- The variable that the library's search asks. -/
def Glob (R : Hp) : Prop := ∃ m : Int, ∀ (w : World) (S : Hp), Sat w (S * R) → w.cell? ⟨0, 0, none⟩ = some (.int .i64 m)
theorem Glob.more {R S : Hp} (h : Glob R) : Glob (S * R) := by
  obtain ⟨m, h⟩ := h
  exact ⟨m, fun w S' hS => h w (S' * S) (hS.perm (by ac_rfl))⟩
theorem Glob.at {K : Ctx} {w : World} {n : Now} {R : Hp} (h : SAt K w n R) (hg : Glob R) : ∃ m : Int, w.cell? ⟨0, 0, none⟩ = some (.int .i64 m) := by
  obtain ⟨X, h1, _⟩ := h.frame
  obtain ⟨m, hm⟩ := hg
  exact ⟨m, hm _ _ h1⟩
theorem replace_calls (o : ByteArray) (b : UInt8) (m : Int) (w : World) (ho : OOk o) (hb : b ∈ optL) (hm : w.cell? ⟨0, 0, none⟩ = some (.int .i64 m)) :
    Calls Tryz.prog 95 #[.string o, .string ⟨#[b]⟩, .string ⟨#[]⟩] w fun e w' => e = .returned (.string ⟨(optS (bs o) b false).toArray⟩) ∧ Below w.heap.size w w' := by
  have hsz : o.size ≤ 6 := by rw [← bs_length]; exact (opt_len _ ho.subs b hb).2.2
  refine (Tryz.strings_ReplaceAll o ⟨#[b]⟩ ⟨#[]⟩ m w (by omega) hm (show 1 ≤ 1 from Nat.le_refl 1) (by show o.size + _ * 0 ≤ _; omega)).mono ?_
  rintro e w' ⟨rfl, hB⟩
  refine ⟨?_, hB⟩
  have := opt_rest _ ho.subs b hb
  show Ending.returned (.string ⟨(Lib.replaceAll (bs o) [b] []).toArray⟩) = _
  rw [this]
end Go.Proofs.YtlmjidandjemjaaGreatDoor.State

namespace Go.Proofs.YtlmjidandjemjaaGreatDoor.State
open Go.RowKit Go.Proofs.YtlmjidandjemjaaGreatDoor Go.Proofs.YtlmjidandjemjaaGreatDoor.Hp Go.Proofs.YtlmjidandjemjaaGreatDoor.Undo
open Now (optL optS)
set_option linter.unusedVariables false
attribute [local go_sem] Oper.semAt_some

/-- Which options there are. -/
theorem opt_cases {b : UInt8} (h : b ∈ optL) : b = 67 ∨ b = 97 ∨ b = 101 ∨ b = 102 ∨ b = 117 ∨ b = 120 := by
  unfold optL at h
  simpa using h
theorem opt_not {b : UInt8} (h : b ∉ optL) : (((b.toNat : Nat) : Int) == 67) = false ∧ (((b.toNat : Nat) : Int) == 97) = false ∧ (((b.toNat : Nat) : Int) == 101) = false ∧ (((b.toNat : Nat) : Int) == 102) = false ∧ (((b.toNat : Nat) : Int) == 117) = false ∧ (((b.toNat : Nat) : Int) == 120) = false := by
  have key : ∀ k : Nat, k < 256 → UInt8.ofNat k ∈ optL → (((b.toNat : Nat) : Int) == (k : Int)) = false := fun k hk hm => by
    rw [u8_lit b k hk, beq_eq_false_iff_ne]
    rintro rfl
    exact h hm
  exact ⟨key 67 (by decide) (by decide), key 97 (by decide) (by decide), key 101 (by decide) (by decide), key 102 (by decide) (by decide), key 117 (by decide) (by decide), key 120 (by decide) (by decide)⟩
set_option maxRecDepth 100000 in
set_option maxHeartbeats 8000000 in
theorem SetOption_bad (K : Ctx) (n : Now) (b : UInt8) (on : Bool) (w : World) (R : Hp) (hb : b ∉ optL) (h : SAt K w n R) :
    Calls Tryz.prog 34 #[pp K.sb, .int .u8 ((b.toNat : Nat) : Int), .bool on] w (Lays K w R (1, n)) := by
  obtain ⟨h1, h2, h3, h4, h5, h6⟩ := opt_not hb
  have H0 := Lib.hid h
  clear h hb
  go_enter Tryz.func34, Tryz.ntmps34
  go_wp2_with fail
  go_ret
  exact Lays.same H0.out (Below.refl 0 w)
theorem infoU8 : (Tryz.prog.info? 5).map (fun i => (i.zero, i.size, i.bytes)) = some (some (.int .u8 0), 1, 1) := by kernel_rfl
def rowZ (l : List UInt8) : Array Int := (l.map fun c => ((c.toNat : Nat) : Int)).toArray
theorem rowZ_size (l : List UInt8) : (rowZ l).size = l.length := by simp [rowZ]
theorem rowZ_at (l : List UInt8) (j : Nat) (hj : j < l.length) : (rowZ l)[j]! = ((l[j].toNat : Nat) : Int) := by
  rw [getElem!_pos _ j (by rw [rowZ_size]; exact hj)]
  simp [rowZ]
theorem conv_bytes (rest : ByteArray) (w3 : World) :
    ∃ c4 w4, (convert 9 129 (.string rest)).run Tryz.prog w3 = .ok (.slice (some ⟨w3.heap.size, 0, none⟩) rest.size c4) w4 ∧ w4.heap.size = w3.heap.size + 1 ∧ Below w3.heap.size w3 w4 ∧ rest.size ≤ c4 ∧
      ∃ cur : Array Value, w4.heap[w3.heap.size]? = some (.cells cur 5 (cur.size, cur.size + 1)) ∧ cur.size = c4 ∧ ∀ j (h : j < rest.size), cur[j]? = some (.int .u8 ((rest[j].toNat : Nat) : Int)) := by
  have hge := grownCap_ge w3 rest.size 0 5
  refine ⟨_, _, run_bytes_of_string w3 9 129 5 rest Tryz.underlying9 Tryz.underlying129 Tryz.underlying5, ?_, ?_, hge, bytesRow rest (grownCap w3 rest.size 0 5), ?_, ?_, fun j h => ?_⟩
  · rw [World.size_alloc]; rfl
  · exact ((Below.refl _ w3).drew).alloc (Nat.le_refl _) _
  · exact heap_alloc_new w3.drew _
  · simp only [bytesRow, Array.size_append, Array.size_map, Array.size_replicate]
    show rest.size + _ = _
    omega
  · unfold bytesRow
    rw [Array.getElem?_append_left (by rw [Array.size_map]; exact h), Array.getElem?_map]
    show (rest.data[j]?).map _ = _
    rw [Array.getElem?_eq_getElem (show j < rest.data.size from h)]
    rfl
theorem app_bytes (rest : ByteArray) (b : UInt8) (w3 w4 : World) (c4 : Nat) (hsz : rest.size ≤ 5) (hs4 : w4.heap.size = w3.heap.size + 1) (hB : Below w3.heap.size w3 w4) (hc4 : rest.size ≤ c4) (cur : Array Value) (hcur : w4.heap[w3.heap.size]? = some (.cells cur 5 (cur.size, cur.size + 1))) (hcs : cur.size = c4) (hce : ∀ j (h : j < rest.size), cur[j]? = some (.int .u8 ((rest[j].toNat : Nat) : Int))) :
    ∃ p o c5 w5, (Builtin.append_ #[129, 129] 129 #[.slice (some ⟨w3.heap.size, 0, none⟩) rest.size c4, .slice (some ⟨w4.heap.size, 0, none⟩) 1 1]).run Tryz.prog (w4.alloc (.cells #[.int .u8 ((b.toNat : Nat) : Int)] 5 (0, 0))) = .ok (.slice (some ⟨p, o, none⟩) (rest.size + 1) c5) w5 ∧
      w3.heap.size ≤ p ∧ Below w3.heap.size w3 w5 ∧ Sort.Holds u8V w5 p o (rowZ (bs rest ++ [b])) := by
  obtain ⟨i0, hi, hz0, hz1, hz2⟩ := info_parts infoU8
  obtain ⟨wA, hwA⟩ : ∃ wA, wA = w4.alloc (.cells #[.int .u8 ((b.toNat : Nat) : Int)] 5 (0, 0)) := ⟨_, rfl⟩
  rw [← hwA]
  have hBA : Below w3.heap.size w3 wA := by rw [hwA]; exact hB.alloc hB.size _
  have hnew : wA.heap[w4.heap.size]? = some (.cells #[.int .u8 ((b.toNat : Nat) : Int)] 5 (0, 0)) := by rw [hwA]; exact heap_alloc_new w4 _
  have hcurA : wA.heap[w3.heap.size]? = some (.cells cur 5 (cur.size, cur.size + 1)) := by
    rw [hwA, Below.heap_alloc w4 _ _ (by omega)]; exact hcur
  have hsrc : Src Tryz.prog i0.size 129 (.slice (some ⟨w4.heap.size, 0, none⟩) 1 1) 1 [.int .u8 ((b.toNat : Nat) : Int)] wA := by
    refine Src.ofSlice wA Tryz.underlying129 ⟨w4.heap.size, 0, none⟩ 1 1 _ (by rw [hz1]; rfl) (fun j u hj => ?_) (by simp [Value.oneCell'])
    rw [Addr.add_lit, Nat.zero_add, cell_at hnew, ← hj]
    simp
  have hL : (bs rest ++ [b]).length = rest.size + 1 := by rw [List.length_append, bs_length]; rfl
  by_cases hr : rest.size + 1 ≤ c4
  · have hrun := run_append_room_src (P := Tryz.prog) wA 129 129 129 5 i0 Tryz.underlying129 hi w3.heap.size 0 rest.size c4 _ 1 _ hsrc hr
      (fun j hj => by
        have hj0 : j = 0 := by simp at hj; omega
        subst hj0
        rw [hz1, Nat.mul_one, Nat.zero_add, Nat.add_zero, cell_at hcurA]
        have : rest.size < cur.size := by omega
        simp [this])
      (fun j hj => by
        have hj0 : j = 0 := by simp at hj; omega
        subst hj0
        rw [hz1, Nat.mul_one, Nat.zero_add, Nat.add_zero]
        have : rest.size < cur.size := by omega
        simp [World.frozen?, hcurA]; omega)
    rw [hz1, Nat.mul_one, Nat.zero_add] at hrun
    obtain ⟨⟨cur', g1, g2, g3⟩, g4, g5⟩ := heap_setCells w3.heap.size [.int .u8 ((b.toNat : Nat) : Int)] rest.size wA cur _ _ hcurA (by simp; omega)
    refine ⟨_, _, _, _, hrun, Nat.le_refl _, ⟨g5.os.trans hBA.os, g5.tape.trans hBA.tape, g5.output.trans hBA.output, Nat.le_trans hBA.size g5.size, fun k hk => (g4 k (by omega)).trans (hBA.block k hk)⟩, fun j hj => ?_⟩
    rw [rowZ_size, hL] at hj
    refine ⟨?_, by simp [World.frozen?, g1]; omega⟩
    rw [cell_at g1, Nat.zero_add, rowZ_at _ j (by rw [hL]; exact hj), g3]
    by_cases hj2 : j < rest.size
    · have he : (bs rest ++ [b])[j]'(by rw [hL]; exact hj) = rest[j] := by
        rw [List.getElem_append_left (by rw [bs_length]; exact hj2)]; rfl
      rw [if_neg (by omega), hce j hj2, he]
    · have hj3 : j = rest.size := by omega
      subst hj3
      rw [if_pos (by simp)]
      rw [List.getElem_append_right (by rw [bs_length]; exact Nat.le_refl _)]
      simp
  · have hold : (Builtin.firstCells i0.size rest.size (.slice (some ⟨w3.heap.size, 0, none⟩) rest.size c4)).run Tryz.prog wA.drew = .ok ((bs rest).map fun c => Value.int .u8 ((c.toNat : Nat) : Int)).toArray wA.drew := by
      refine run_firstCells_some wA.drew i0.size rest.size ⟨w3.heap.size, 0, none⟩ rest.size c4 _ (by rw [List.length_map, bs_length, hz1, Nat.mul_one]) fun j v hj => ?_
      have hj' : j < rest.size := by have := (List.getElem?_eq_some_iff.1 hj).1; rwa [List.length_map, bs_length] at this
      rw [Addr.add_lit, Nat.zero_add]
      show wA.cell? _ = _
      rw [cell_at hcurA, hce j hj', ← hj, List.getElem?_map, bs_get rest j hj']
      rfl
    have hfit : Builtin.nextslicecap (rest.size + 1) c4 * i0.bytes ≤ 281474976710656 := growslice_fits (by omega) (by rw [hz2]; omega)
    have hrun := run_append_grow_src (P := Tryz.prog) wA 129 129 129 5 i0 _ Tryz.underlying129 hi hz0 (some ⟨w3.heap.size, 0, none⟩) rest.size c4 _ hold _ 1 _ hsrc (by omega) (by omega) hfit
    refine ⟨_, _, _, _, hrun, by rw [hwA, World.size_alloc]; omega, (hBA.drew).alloc (by exact hBA.size) _, fun j hj => ?_⟩
    rw [rowZ_size, hL] at hj
    have hg := heap_alloc_new wA.drew (.cells ((((bs rest).map fun c : UInt8 => Value.int .u8 ((c.toNat : Nat) : Int)) ++ [Value.int .u8 ((b.toNat : Nat) : Int)]).toArray ++ Builtin.zeroCells (Value.int .u8 0).cells (grownCap wA (rest.size + 1) c4 5 - (rest.size + 1))) 5 (0, 0))
    refine ⟨?_, free_at hg _⟩
    show (World.alloc _ _).cell? ⟨wA.drew.heap.size, 0 + j, none⟩ = _
    rw [cell_at hg, Nat.zero_add, rowZ_at _ j (by rw [hL]; exact hj), Array.getElem?_append_left (by simp; omega)]
    rw [List.getElem?_toArray]
    have he : ((bs rest).map fun c : UInt8 => Value.int .u8 ((c.toNat : Nat) : Int)) ++ [Value.int .u8 ((b.toNat : Nat) : Int)] = (bs rest ++ [b]).map fun c : UInt8 => Value.int .u8 ((c.toNat : Nat) : Int) := by rw [List.map_append]; rfl
    rw [he, List.getElem?_map, List.getElem?_eq_getElem (by rw [hL]; exact hj)]
    rfl
theorem below_row {B : Nat} {a w : World} (h : Below B a w) {blk : Nat} (hb : B ≤ blk) (k off : Nat) (d : Array Int) : Below B a (Sort.putRow u8V (Sort.ahead w k) blk off d) := by
  refine h.trans ⟨rfl, rfl, rfl, by rw [Sort.size_putRow]; exact Nat.le_refl _, fun j hj => ?_⟩
  show ((w.heap.modify blk _)[j]?) = _
  rw [Array.getElem?_modify, if_neg (by omega)]
/-- The row sorted, as a text. -/
theorem sorted_text (l : List UInt8) (b : UInt8) (hl : l ∈ subs optL) (hb : b ∈ optL) (w5 : World) (p o k c : Nat) (hH : Sort.Holds u8V w5 p o (rowZ (optS l b false ++ [b]))) :
    (convert 129 9 (.slice (some ⟨p, o, none⟩) ((optS l b false).length + 1) c)).run Tryz.prog (Sort.putRow u8V (Sort.ahead w5 k) p o (Sort.insertionSort Sort.ltInt (rowZ (optS l b false ++ [b])) 0 (rowZ (optS l b false ++ [b])).size)) = .ok (.string ⟨(optS l b true).toArray⟩) (Sort.putRow u8V (Sort.ahead w5 k) p o (Sort.insertionSort Sort.ltInt (rowZ (optS l b false ++ [b])) 0 (rowZ (optS l b false ++ [b])).size)) := by
  obtain ⟨h1, h2, h3⟩ := opt_len l hl b hb
  obtain ⟨d, hd⟩ : ∃ d, d = rowZ (optS l b false ++ [b]) := ⟨_, rfl⟩
  rw [← hd] at hH ⊢
  obtain ⟨hP, hSo⟩ := Sort.insertionSort_holds Sort.swo_ltInt d 0 d.size (Nat.zero_le _) (Nat.le_refl _)
  have hu := Sort.sorted_unique_holds Sort.swo_ltInt (fun x y h1 h2 => by simp only [Sort.ltInt, decide_eq_false_iff_not] at h1 h2; omega) d _ hP hSo
  obtain ⟨d', hd'⟩ : ∃ d', d' = Sort.insertionSort Sort.ltInt d 0 d.size := ⟨_, rfl⟩
  rw [← hd'] at hu hP ⊢
  have hds : d'.size = d.size := hP.1
  have hr : d'.toList = (optS l b true).map fun c => ((c.toNat : Nat) : Int) := by
    rw [hu]
    refine List.Perm.eq_of_pairwise (le := fun x y : Int => x ≤ y) (fun a b _ _ h1 h2 => Int.le_antisymm h1 h2) ?_ (opt_rise l hl b hb) ((List.mergeSort_perm _ _).trans ?_)
    · refine (List.pairwise_mergeSort (le := fun x y => !Sort.ltInt y x) (fun a b c h1 h2 => ?_) (fun a b => ?_) d.toList).imp fun {a b} h => ?_
      · simp only [Sort.ltInt, Bool.not_eq_true', decide_eq_false_iff_not] at *; omega
      · simp only [Sort.ltInt, Bool.or_eq_true, Bool.not_eq_true', decide_eq_false_iff_not]; omega
      · simp only [Sort.ltInt, Bool.not_eq_true', decide_eq_false_iff_not] at h; omega
    · rw [hd]
      exact (List.isPerm_iff.1 (opt_perm l hl b hb)).symm
  have hlen : d'.size = (optS l b true).length := by rw [← Array.length_toList, hr, List.length_map]
  rw [← h1]
  refine run_convert_bytes_back _ 129 9 5 ⟨p, o, none⟩ c (optS l b true) Tryz.underlying129 Tryz.underlying5 Tryz.underlying9 (fun j hj => ?_)
  rw [Addr.add_lit, Sort.cell?_putRow u8V _ p o d d' (Sort.holds_ahead _ _ _ _ _ _ hH) hds j (by omega)]
  congr 2
  have hj2 : j < d'.size := by omega
  rw [getElem!_pos d' j hj2]
  have := congrArg (fun l => l[j]?) hr
  simp only [List.getElem?_map] at this
  rw [List.getElem?_eq_getElem hj, Array.getElem?_toList, Array.getElem?_eq_getElem hj2] at this
  simpa using this
end Go.Proofs.YtlmjidandjemjaaGreatDoor.State

