/- slices.Sort of a few bytes walked (the insertion sort; turned from the guide's walk at int). -/
import Derived.Test.YtlmjidandjemjaaGreatDoorStLR
import Derived.Test.YtlmjidandjemjaaGreatDoorShb
import Derived.Sort.LotA
import Derived.Sort.Row
import Derived.BigGuard
import Derived.BigCall
import Derived.CellFam
import Derived.Deep.Draws
import Derived.Deep.QuietTactic
import Derived.BigQuiet
namespace Go.Proofs.YtlmjidandjemjaaGreatDoor.State
open Go.RowKit Go.Sort Go.Proofs.YtlmjidandjemjaaGreatDoor Go.Proofs.YtlmjidandjemjaaGreatDoor.Hp Go.Proofs.YtlmjidandjemjaaGreatDoor.Undo
set_option linter.unusedVariables false
attribute [local go_sem] Oper.semAt_some

abbrev u8V (x : Int) : Value := .int .u8 x
def intOfV : Value → Int | .int _ q => q | _ => 0
theorem putCells_at (off : Nat) (d : Array Int) (c : Array Value) (j : Nat) (hj : j < d.size) (hc : off + j < c.size) : (putCells u8V off d c)[off + j]? = some (u8V d[j]!) := by
  unfold putCells
  rw [Array.getElem?_mapIdx, Array.getElem?_eq_getElem hc, Option.map_some, if_pos ⟨by omega, by omega⟩, show off + j - off = j by omega]
theorem toList_at (d : Array Int) (j : Nat) (hj : j < d.size) : (d.toList.map u8V)[j]? = some (u8V d[j]!) := by
  rw [List.getElem?_map, Array.getElem?_toList, getElem!_pos d j hj, Array.getElem?_eq_getElem hj]
  rfl
theorem arr_row {w : World} {S : Hp} {b o cap : Nat} {d d' : Array Int} (hs : d'.size = d.size) (h : Sat w (arr 5 1 (some ⟨b, o, none⟩) d.size cap (d.toList.map u8V) * S)) :
    Sat (putRow u8V w b o d') (arr 5 1 (some ⟨b, o, none⟩) d.size cap (d'.toList.map u8V) * S) := by
  obtain ⟨cur, h1, h2, h3, h4, h5, h6, hh⟩ := h.arr_some
  have h4' : o + cap ≤ cur.size := by simpa using h4
  have hsz : (putCells u8V o d' cur).size = cur.size := by simp [putCells]
  refine Sat.arr_mk (cur := putCells u8V o d' cur) h2 h3 (by rw [hsz]; exact h4) (by simp [hs]) (fun j hj => ?_) (hh.put ?_ fun k _ hk => ?_)
  · have hj2 : j < d'.size := by simpa using hj
    rw [toList_at d' j hj2, putCells_at o d' cur j hj2 (by omega)]
  · have hg := hh.get
    show ((w.heap.modify b (onCells (putCells u8V o d')))[b]?) = _
    rw [Array.getElem?_modify, if_pos rfl, hg]; rfl
  · show ((w.heap.modify b (onCells (putCells u8V o d')))[k]?) = _
    rw [Array.getElem?_modify, if_neg (fun e => hk e.symm)]
theorem arr_holds {w : World} {S : Hp} {b o cap : Nat} {d : Array Int} (h : Sat w (arr 5 1 (some ⟨b, o, none⟩) d.size cap (d.toList.map u8V) * S)) : Holds u8V w b o d := by
  intro j hj
  refine ⟨?_, h.arr_free _⟩
  rw [h.arr_cell j (by simpa using hj)]
  have := toList_at d j hj
  rw [List.getElem?_eq_getElem (by simpa using hj)] at this
  exact this
section
variable {α : Type} [Inhabited α] (lt : α → α → Bool)
theorem inner_go (a j : Nat) (d : Array α) (hj : a < j) (hl : lt d[j]! d[j - 1]! = true) : insInner lt a j d = insInner lt a (j - 1) (swp d j (j - 1)) := by
  obtain ⟨k, rfl⟩ : ∃ k, j = k + 1 := ⟨j - 1, by omega⟩
  rw [insInner]
  simp only [Nat.add_sub_cancel] at hl ⊢
  simp [hj, hl]
theorem inner_stop (a j : Nat) (d : Array α) (h : j ≤ a ∨ lt d[j]! d[j - 1]! = false) : insInner lt a j d = d := by
  cases j with
  | zero => rw [insInner]
  | succ k =>
    rw [insInner]
    simp only [Nat.add_sub_cancel] at h
    rcases h with h | h
    · simp [show ¬ k + 1 > a by omega]
    · simp [h]
theorem outer_go (a b i : Nat) (d : Array α) (h : i < b) : insOuter lt a b i d = insOuter lt a b (i + 1) (insInner lt a i d) := by rw [insOuter, if_pos h]
theorem outer_stop (a b i : Nat) (d : Array α) (h : ¬ i < b) : insOuter lt a b i d = d := by rw [insOuter, if_neg h]
end
theorem row_drewN (w : World) (m q blk off : Nat) (d : Array Int) : (putRow u8V (Sort.ahead w m) blk off d).drewN q = putRow u8V (Sort.ahead w (m + q)) blk off d := by
  show Sort.ahead (putRow u8V (Sort.ahead w m) blk off d) q = _
  rw [putRow_ahead u8V w m, ahead_ahead, ← putRow_ahead]
theorem row_swap (w : World) (m q blk off : Nat) (d : Array Int) (j k : Nat) (hj : j < d.size) (hk : k < d.size) :
    (((putRow u8V (Sort.ahead w m) blk off d).drewN q).setCell ⟨blk, off + j, none⟩ (u8V d[k]!)).setCell ⟨blk, off + k, none⟩ (u8V d[j]!) = putRow u8V (Sort.ahead w (m + q)) blk off (swp d j k) := by
  rw [row_drewN]
  exact putRow_swp u8V _ blk off d j k hj hk
theorem isNaN_calls (x : Int) (w : World) : Calls Tryz.prog 175 #[.int .u8 x] w fun e w' => e = .returned (.bool false) ∧ w' = w := by
  go_enter Tryz.func175, Tryz.ntmps175
  go_wp2
  go_ret
  exact ⟨by simp, rfl⟩
theorem less_calls (x y : Int) (w : World) : Calls Tryz.prog 152 #[.int .u8 x, .int .u8 y] w fun e w' => e = .returned (.bool (Sort.ltInt x y)) ∧ w' = w := by
  go_enter Tryz.func152, Tryz.ntmps152
  go_wp2_with (go_at_call 175; refine (isNaN_calls _ _).mono ?_; rintro e w' ⟨rfl, rfl⟩)
  go_ret
  exact ⟨rfl, rfl⟩
set_option maxRecDepth 100000 in
set_option maxHeartbeats 8000000 in
theorem insert_calls (blk off cap a b : Nat) (d : Array Int) (w : World) (hH : Holds u8V w blk off d) (hab : a ≤ b) (hb : b ≤ d.size) (hsz : d.size < 4611686018427387904) :
    Calls Tryz.prog 146 #[.slice (some ⟨blk, off, none⟩) d.size cap, .int .i64 a, .int .i64 b] w fun e w' =>
      e = .returned (.tuple #[]) ∧ ∃ n, w' = putRow u8V (Sort.ahead w n) blk off (Sort.insertionSort ltInt d a b) := by
  go_enter Tryz.func146, Tryz.ntmps146
  go_wp2
  go_loopw [6] (fun vi wr => ∃ (i n : Nat) (dk : Array Int), vi = .int .i64 i ∧ a < i ∧ i ≤ b + 1 ∧ dk.size = d.size ∧ wr = putRow u8V (Sort.ahead w n) blk off dk ∧
      insOuter ltInt a b i dk = insOuter ltInt a b (a + 1) d) (fun vi _ => b + 1 - (intOfV vi).toNat)
  case atStart => exact ⟨a + 1, 0, d, by go_num, by omega, by omega, rfl, (putRow_self _ _ _ _ _ hH).symm, rfl⟩
  case round =>
    obtain ⟨i, n, dk, rfl, hai, hib, hsk, hwr, hO⟩ := hrel
    have HO : Hid (insOuter ltInt a b i dk = insOuter ltInt a b (a + 1) d) := hO
    clear hO
    go_wp2
    · go_loopw [7] (fun vj wr2 => ∃ (j m : Nat) (dj : Array Int), vj = .int .i64 j ∧ a ≤ j ∧ j ≤ i ∧ dj.size = d.size ∧ wr2 = putRow u8V (Sort.ahead w m) blk off dj ∧
          insInner ltInt a j dj = insInner ltInt a i dk) (fun vj _ => (intOfV vj).toNat)
      case atStart => exact ⟨i, n, dk, rfl, by omega, Nat.le_refl _, hsk, rfl, rfl⟩
      case round =>
        obtain ⟨j, m, dj, rfl, haj, hji, hsj, hw2, hI⟩ := hrel
        have hlt : i < b := by assumption
        obtain ⟨G, hG⟩ : ∃ G : Nat → Int, ∀ t, G t = dj[t]! := ⟨fun t => dj[t]!, fun _ => rfl⟩
        have hcw : ∀ t, t < d.size → wr.cell? ⟨blk, off + t, none⟩ = some (.int .u8 (G t)) := fun t ht => by
          rw [hw2, hG]; exact cell?_putRow _ _ _ _ d dj (holds_ahead _ _ _ _ _ _ hH) hsj t (by omega)
        have hfw : ∀ t, t < d.size → wr.frozen? ⟨blk, off + t, none⟩ = false := fun t ht => by
          rw [hw2, frozen?_putRow]; exact ((holds_ahead _ _ m _ _ _ hH) t ht).2
        have HW : Hid (wr = putRow u8V (Sort.ahead w m) blk off dj) := hw2
        have HG : Hid (∀ t, G t = dj[t]!) := hG
        have HI : Hid (insInner ltInt a j dj = insInner ltInt a i dk) := hI
        clear hw2 hG hI hH
        have out : (j ≤ a ∨ ltInt dj[j]! dj[j - 1]! = false) → ∀ q, ∃ i' n' dk', Value.int .i64 ((i : Int) + 1) = .int .i64 (i' : Nat) ∧ a < i' ∧ i' ≤ b + 1 ∧ dk'.size = d.size ∧
            wr.drewN q = putRow u8V (Sort.ahead w n') blk off dk' ∧ insOuter ltInt a b i' dk' = insOuter ltInt a b (a + 1) d := fun hs q =>
          ⟨i + 1, m + q, dj, by go_num, by omega, by omega, hsj, by rw [HW.out]; exact row_drewN _ _ _ _ _ _,
            by rw [← HO.out, outer_go _ _ _ _ _ hlt, ← HI.out, inner_stop _ _ _ _ hs]⟩
        have OUT : Hid _ := out
        clear out
        go_wp2
        by_cases hja : a < j
        · go_quiet (first | (go_at_call 152; refine Calls.quiet_of_same (less_calls _ _ _)))
          go_wp2
          · have hl : ltInt (G j) (G (j - 1)) = true := by assumption
            go_region
            all_goals go_wp2
            go_roundw
            case rel =>
              refine ⟨j - 1, m + (nq + 1), swp dj j (j - 1), by congr 1; omega, by omega, by omega, by rw [size_swp]; exact hsj, ?_, ?_⟩
              · rw [HW.out, HG.out, HG.out]
                exact row_swap w m (nq + 1) blk off dj j (j - 1) (by omega) (by omega)
              · rw [← HI.out, inner_go ltInt a j dj hja (by rw [← HG.out, ← HG.out]; exact hl)]
            case measure => simp [intOfV]; omega
          · have hl : ltInt (G j) (G (j - 1)) = false := by assumption
            go_roundw
            case rel => exact OUT.out (Or.inr (by rw [← HG.out, ← HG.out]; exact hl)) nq
            case measure => simp [intOfV]; omega
        · go_quiet (first | (go_at_call 152; refine Calls.quiet_of_same (less_calls _ _ _)))
          go_wp2
          go_roundw
          case rel => exact OUT.out (Or.inl (by omega)) nq
          case measure => simp [intOfV]; omega
    · have hge : ¬ i < b := by assumption
      go_end0
      exact ⟨rfl, n, by unfold Sort.insertionSort; rw [← HO.out, outer_stop _ _ _ _ _ hge]⟩
set_option maxRecDepth 100000 in
set_option maxHeartbeats 8000000 in
theorem pdq_calls (blk off cap : Nat) (d : Array Int) (w : World) (lim : Int) (hH : Holds u8V w blk off d) (hsz : d.size ≤ 12) :
    Calls Tryz.prog 128 #[.slice (some ⟨blk, off, none⟩) d.size cap, .int .i64 0, .int .i64 (d.size : Int), .int .i64 lim] w fun e w' =>
      e = .returned (.tuple #[]) ∧ ∃ n, w' = putRow u8V (Sort.ahead w n) blk off (Sort.insertionSort ltInt d 0 d.size) := by
  have HI := Lib.hid (insert_calls blk off cap 0 d.size d w hH (Nat.zero_le _) (Nat.le_refl _) (by omega))
  have h0 : (d.size : Int) - 0 ≤ 12 := by omega
  have h1 : (d.size : Int) ≤ 12 := by omega
  have h2 : (0 : Int) ≤ d.size := by omega
  clear hH
  go_enter Tryz.func128, Tryz.ntmps128
  go_wp2_with fail
  go_loopg [1, 2, 3, 8, 9, 10, 11, 12, 13, 14, 15, 16, 17, 18] 1 (fun (g : Nat) (v1 v2 v3 v8 v9 v10 v11 v12 v13 v14 v15 v16 v17 v18 : Value) (wr : World) => v1 = .int .i64 0 ∧ v2 = .int .i64 (d.size : Int) ∧ w = wr)
  case atStart => exact ⟨rfl, rfl, rfl⟩
  case round =>
    obtain ⟨rfl, rfl, rfl⟩ := hrel
    go_wp2_with fail
    refine HI.out.mono ?_
    rintro e w1 ⟨rfl, hw⟩
    have Hw := Lib.hid hw
    clear hw
    go_wp2_with fail
    refine bodyPost_ret (results_none rfl _ _ _) rfl ?_
    exact ⟨rfl, Hw.out⟩
theorem sort_calls (blk off cap : Nat) (d : Array Int) (w : World) (hH : Holds u8V w blk off d) (hsz : d.size ≤ 12) :
    Calls Tryz.prog 96 #[.slice (some ⟨blk, off, none⟩) d.size cap] w fun e w' =>
      e = .returned (.tuple #[]) ∧ ∃ n, w' = putRow u8V (Sort.ahead w n) blk off (Sort.insertionSort ltInt d 0 d.size) := by
  have HP := Lib.hid (fun lim => pdq_calls blk off cap d w lim hH hsz)
  have HL := Lib.hid (Tryz.bits_Len (d.size : Int) w (by omega) (by omega))
  have h1 : (d.size : Int) ≤ 12 := by omega
  clear hH
  go_enter Tryz.func96, Tryz.ntmps96
  go_wp2_with fail
  refine HL.out.mono ?_
  rintro e w1 ⟨rfl, rfl⟩
  go_wp2_with fail
  refine (HP.out _).mono ?_
  rintro e w1 ⟨rfl, hw⟩
  have Hw := Lib.hid hw
  clear hw
  go_wp2_with fail
  go_end0
  exact ⟨rfl, Hw.out⟩
/-- A rising row and one more byte, sorted. -/
theorem sortB_calls (p : Option Addr) (cap : Nat) (d : Array Int) (r : List Int) (w : World) (S : Hp) (hsz : d.size ≤ 12) (h0 : 0 < d.size) (hp : r.Perm d.toList) (hr : r.Pairwise (· ≤ ·)) (h : Sat w (arr 5 1 p d.size cap (d.toList.map u8V) * S)) :
    Calls Tryz.prog 96 #[.slice p d.size cap] w fun e w' => (e = .returned (.tuple #[]) ∧ Sat w' (arr 5 1 p d.size cap (r.map u8V) * S)) ∧ Ran w w' := by
  have hl := h.arr_len
  obtain ⟨b, o, rfl⟩ := h.arr_addr (by omega)
  refine (sort_calls b o cap d w (arr_holds h) hsz).mono ?_
  rintro e w' ⟨rfl, n, rfl⟩
  obtain ⟨hP, hSo⟩ := insertionSort_holds swo_ltInt d 0 d.size (Nat.zero_le _) (Nat.le_refl _)
  have hu := sorted_unique_holds swo_ltInt (fun x y h1 h2 => by simp only [ltInt, decide_eq_false_iff_not] at h1 h2; omega) d _ hP hSo
  obtain ⟨d', hd'⟩ : ∃ d', d' = Sort.insertionSort ltInt d 0 d.size := ⟨_, rfl⟩
  rw [← hd'] at hu hP ⊢
  have hds : d'.size = d.size := hP.1
  have hrow := arr_row (w := Sort.ahead w n) (d' := d') hds (show Sat (Sort.ahead w n) _ from h.ext fun _ _ => rfl)
  have hdr : d'.toList = r := by
    rw [hu]
    refine List.Perm.eq_of_pairwise (le := fun x y : Int => x ≤ y) (fun a b _ _ h1 h2 => Int.le_antisymm h1 h2) ?_ hr ((List.mergeSort_perm _ _).trans hp.symm)
    refine (List.pairwise_mergeSort (le := fun x y => !ltInt y x) (fun a b c h1 h2 => ?_) (fun a b => ?_) d.toList).imp fun {a b} h => ?_
    · simp only [ltInt, Bool.not_eq_true', decide_eq_false_iff_not] at *; omega
    · simp only [ltInt, Bool.or_eq_true, Bool.not_eq_true', decide_eq_false_iff_not]; omega
    · simp only [ltInt, Bool.not_eq_true', decide_eq_false_iff_not] at h; omega
  rw [hdr] at hrow
  exact ⟨⟨rfl, hrow⟩, ⟨rfl, rfl, rfl, by rw [size_putRow]; exact Nat.le_refl _, fun k hk => absurd hk (Nat.not_lt_zero _)⟩⟩
end Go.Proofs.YtlmjidandjemjaaGreatDoor.State
