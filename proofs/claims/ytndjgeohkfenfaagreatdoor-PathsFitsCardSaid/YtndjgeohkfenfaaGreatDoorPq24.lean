/- HandlesPlays, part 24 of 26: the texts PaW PaX, joined by a program. -/
import Derived.Test.YtndjgeohkfenfaaGreatDoorPq23
namespace Go.Proofs.YtndjgeohkfenfaaGreatDoor.Globs
open Go.RowKit Go.Proofs.YtndjgeohkfenfaaGreatDoor Go.Proofs.YtndjgeohkfenfaaGreatDoor.Hp
open Go.Proofs.YtndjgeohkfenfaaGreatDoor.Hd (fsHp Fs Nd Kd K.putM TreeG Glob WalkP NamesS pp FsOk NumsOk newF rootN madeG mkN placeP find FreeN KeysS ListS)
set_option linter.unusedVariables false

namespace Aw
abbrev q0 (k1 : Nat) : Kd := ⟨k1, fun _ => none, 0, 0⟩
abbrev r0 (b1 k1 : Nat) : Nd := rootN b1 k1
abbrev F0 (b1 k1 : Nat) : Fs := newF 20 100 b1 k1
abbrev F1 (b1 k1 n2 c2 : Nat) : Fs := madeG (F0 b1 k1) 1 (r0 b1 k1) (q0 k1) (⟨#[100]⟩ : ByteArray) 2 (mkN 1 (⟨#[]⟩ : ByteArray) 1 n2 c2)
abbrev kd1_1 (b1 k1 n2 c2 : Nat) : Kd := { (q0 k1) with M := K.putM (q0 k1).M (⟨#[100]⟩ : ByteArray) 2, sz := (q0 k1).sz + 1, n := (q0 k1).n + 1 }
abbrev x1_1 (b1 k1 n2 c2 : Nat) : Nd := { (r0 b1 k1) with kids := some (kd1_1 b1 k1 n2 c2) }
abbrev F2 (b1 k1 n2 c2 n3 c3 : Nat) : Fs := madeG (F1 b1 k1 n2 c2) 2 (mkN 1 (⟨#[]⟩ : ByteArray) 1 n2 c2) (⟨c2, fun _ => none, 0, 0⟩ : Kd) (⟨#[101]⟩ : ByteArray) 3 (mkN 1 (⟨#[]⟩ : ByteArray) 2 n3 c3)
abbrev kd2_2 (b1 k1 n2 c2 n3 c3 : Nat) : Kd := { (⟨c2, fun _ => none, 0, 0⟩ : Kd) with M := K.putM (⟨c2, fun _ => none, 0, 0⟩ : Kd).M (⟨#[101]⟩ : ByteArray) 3, sz := (⟨c2, fun _ => none, 0, 0⟩ : Kd).sz + 1, n := (⟨c2, fun _ => none, 0, 0⟩ : Kd).n + 1 }
abbrev x2_2 (b1 k1 n2 c2 n3 c3 : Nat) : Nd := { (mkN 1 (⟨#[]⟩ : ByteArray) 1 n2 c2) with kids := some (kd2_2 b1 k1 n2 c2 n3 c3) }
abbrev F3 (b1 k1 n2 c2 n3 c3 n4 c4 : Nat) : Fs := madeG (F2 b1 k1 n2 c2 n3 c3) 1 (x1_1 b1 k1 n2 c2) (kd1_1 b1 k1 n2 c2) (⟨#[97]⟩ : ByteArray) 4 (mkN 2 (⟨#[]⟩ : ByteArray) 1 n4 c4)
abbrev kd1_3 (b1 k1 n2 c2 n3 c3 n4 c4 : Nat) : Kd := { (kd1_1 b1 k1 n2 c2) with M := K.putM (kd1_1 b1 k1 n2 c2).M (⟨#[97]⟩ : ByteArray) 4, sz := (kd1_1 b1 k1 n2 c2).sz + 1, n := (kd1_1 b1 k1 n2 c2).n + 1 }
abbrev x1_3 (b1 k1 n2 c2 n3 c3 n4 c4 : Nat) : Nd := { (x1_1 b1 k1 n2 c2) with kids := some (kd1_3 b1 k1 n2 c2 n3 c3 n4 c4) }
abbrev F4 (b1 k1 n2 c2 n3 c3 n4 c4 n5 c5 : Nat) : Fs := madeG (F3 b1 k1 n2 c2 n3 c3 n4 c4) 1 (x1_3 b1 k1 n2 c2 n3 c3 n4 c4) (kd1_3 b1 k1 n2 c2 n3 c3 n4 c4) (⟨#[46, 104]⟩ : ByteArray) 5 (mkN 2 (⟨#[]⟩ : ByteArray) 1 n5 c5)
abbrev kd1_4 (b1 k1 n2 c2 n3 c3 n4 c4 n5 c5 : Nat) : Kd := { (kd1_3 b1 k1 n2 c2 n3 c3 n4 c4) with M := K.putM (kd1_3 b1 k1 n2 c2 n3 c3 n4 c4).M (⟨#[46, 104]⟩ : ByteArray) 5, sz := (kd1_3 b1 k1 n2 c2 n3 c3 n4 c4).sz + 1, n := (kd1_3 b1 k1 n2 c2 n3 c3 n4 c4).n + 1 }
abbrev x1_4 (b1 k1 n2 c2 n3 c3 n4 c4 n5 c5 : Nat) : Nd := { (x1_3 b1 k1 n2 c2 n3 c3 n4 c4) with kids := some (kd1_4 b1 k1 n2 c2 n3 c3 n4 c4 n5 c5) }
abbrev F5 (b1 k1 n2 c2 n3 c3 n4 c4 n5 c5 n6 c6 : Nat) : Fs := madeG (F4 b1 k1 n2 c2 n3 c3 n4 c4 n5 c5) 2 (x2_2 b1 k1 n2 c2 n3 c3) (kd2_2 b1 k1 n2 c2 n3 c3) (⟨#[102]⟩ : ByteArray) 6 (mkN 2 (⟨#[]⟩ : ByteArray) 2 n6 c6)
abbrev F6 (b1 k1 n2 c2 n3 c3 n4 c4 n5 c5 n6 c6 n7 c7 : Nat) : Fs := madeG (F5 b1 k1 n2 c2 n3 c3 n4 c4 n5 c5 n6 c6) 3 (mkN 1 (⟨#[]⟩ : ByteArray) 2 n3 c3) (⟨c3, fun _ => none, 0, 0⟩ : Kd) (⟨#[103]⟩ : ByteArray) 7 (mkN 2 (⟨#[]⟩ : ByteArray) 3 n7 c7)
abbrev F7 (b1 k1 n2 c2 n3 c3 n4 c4 n5 c5 n6 c6 n7 c7 n8 c8 : Nat) : Fs := madeG (F6 b1 k1 n2 c2 n3 c3 n4 c4 n5 c5 n6 c6 n7 c7) 1 (x1_4 b1 k1 n2 c2 n3 c3 n4 c4 n5 c5) (kd1_4 b1 k1 n2 c2 n3 c3 n4 c4 n5 c5) (⟨#[108]⟩ : ByteArray) 8 (mkN 3 (⟨#[100]⟩ : ByteArray) 1 n8 c8)
theorem place0 (b1 k1 : Nat) : placeP (F0 b1 k1) 1 (⟨#[100]⟩ : ByteArray) 1 = (1, (⟨#[100]⟩ : ByteArray), 0) := by kernel_rfl
theorem find0 (b1 k1 : Nat) : find (F0 b1 k1).L 1 = some (r0 b1 k1) := by kernel_rfl
theorem free0 (b1 k1 : Nat) : FreeN (F0 b1 k1).L 2 := ⟨by decide, by show 2 ≤ 2; decide, by kernel_rfl, fun j h1 h2 => by
  have h : j = 1 := by omega
  rcases h with rfl <;> rfl⟩
theorem place1 (b1 k1 n2 c2 : Nat) : placeP (F1 b1 k1 n2 c2) 1 (⟨#[100, 47, 101]⟩ : ByteArray) 1 = (2, (⟨#[101]⟩ : ByteArray), 0) := by kernel_rfl
theorem find1 (b1 k1 n2 c2 : Nat) : find (F1 b1 k1 n2 c2).L 2 = some (mkN 1 (⟨#[]⟩ : ByteArray) 1 n2 c2) := by kernel_rfl
theorem free1 (b1 k1 n2 c2 : Nat) : FreeN (F1 b1 k1 n2 c2).L 3 := ⟨by decide, by show 3 ≤ 3; decide, by kernel_rfl, fun j h1 h2 => by
  have h : j = 1 ∨ j = 2 := by omega
  rcases h with rfl | rfl <;> rfl⟩
theorem place2 (b1 k1 n2 c2 n3 c3 : Nat) : placeP (F2 b1 k1 n2 c2 n3 c3) 1 (⟨#[97]⟩ : ByteArray) 2 = (1, (⟨#[97]⟩ : ByteArray), 0) := by kernel_rfl
theorem find2 (b1 k1 n2 c2 n3 c3 : Nat) : find (F2 b1 k1 n2 c2 n3 c3).L 1 = some (x1_1 b1 k1 n2 c2) := by kernel_rfl
theorem free2 (b1 k1 n2 c2 n3 c3 : Nat) : FreeN (F2 b1 k1 n2 c2 n3 c3).L 4 := ⟨by decide, by show 4 ≤ 4; decide, by kernel_rfl, fun j h1 h2 => by
  have h : j = 1 ∨ j = 2 ∨ j = 3 := by omega
  rcases h with rfl | rfl | rfl <;> rfl⟩
theorem place3 (b1 k1 n2 c2 n3 c3 n4 c4 : Nat) : placeP (F3 b1 k1 n2 c2 n3 c3 n4 c4) 1 (⟨#[46, 104]⟩ : ByteArray) 2 = (1, (⟨#[46, 104]⟩ : ByteArray), 0) := by kernel_rfl
theorem find3 (b1 k1 n2 c2 n3 c3 n4 c4 : Nat) : find (F3 b1 k1 n2 c2 n3 c3 n4 c4).L 1 = some (x1_3 b1 k1 n2 c2 n3 c3 n4 c4) := by kernel_rfl
theorem free3 (b1 k1 n2 c2 n3 c3 n4 c4 : Nat) : FreeN (F3 b1 k1 n2 c2 n3 c3 n4 c4).L 5 := ⟨by decide, by show 5 ≤ 5; decide, by kernel_rfl, fun j h1 h2 => by
  have h : j = 1 ∨ j = 2 ∨ j = 3 ∨ j = 4 := by omega
  rcases h with rfl | rfl | rfl | rfl <;> rfl⟩
theorem place4 (b1 k1 n2 c2 n3 c3 n4 c4 n5 c5 : Nat) : placeP (F4 b1 k1 n2 c2 n3 c3 n4 c4 n5 c5) 1 (⟨#[100, 47, 102]⟩ : ByteArray) 2 = (2, (⟨#[102]⟩ : ByteArray), 0) := by kernel_rfl
theorem find4 (b1 k1 n2 c2 n3 c3 n4 c4 n5 c5 : Nat) : find (F4 b1 k1 n2 c2 n3 c3 n4 c4 n5 c5).L 2 = some (x2_2 b1 k1 n2 c2 n3 c3) := by kernel_rfl
theorem free4 (b1 k1 n2 c2 n3 c3 n4 c4 n5 c5 : Nat) : FreeN (F4 b1 k1 n2 c2 n3 c3 n4 c4 n5 c5).L 6 := ⟨by decide, by show 6 ≤ 6; decide, by kernel_rfl, fun j h1 h2 => by
  have h : j = 1 ∨ j = 2 ∨ j = 3 ∨ j = 4 ∨ j = 5 := by omega
  rcases h with rfl | rfl | rfl | rfl | rfl <;> rfl⟩
theorem place5 (b1 k1 n2 c2 n3 c3 n4 c4 n5 c5 n6 c6 : Nat) : placeP (F5 b1 k1 n2 c2 n3 c3 n4 c4 n5 c5 n6 c6) 1 (⟨#[100, 47, 101, 47, 103]⟩ : ByteArray) 2 = (3, (⟨#[103]⟩ : ByteArray), 0) := by kernel_rfl
theorem find5 (b1 k1 n2 c2 n3 c3 n4 c4 n5 c5 n6 c6 : Nat) : find (F5 b1 k1 n2 c2 n3 c3 n4 c4 n5 c5 n6 c6).L 3 = some (mkN 1 (⟨#[]⟩ : ByteArray) 2 n3 c3) := by kernel_rfl
theorem free5 (b1 k1 n2 c2 n3 c3 n4 c4 n5 c5 n6 c6 : Nat) : FreeN (F5 b1 k1 n2 c2 n3 c3 n4 c4 n5 c5 n6 c6).L 7 := ⟨by decide, by show 7 ≤ 7; decide, by kernel_rfl, fun j h1 h2 => by
  have h : j = 1 ∨ j = 2 ∨ j = 3 ∨ j = 4 ∨ j = 5 ∨ j = 6 := by omega
  rcases h with rfl | rfl | rfl | rfl | rfl | rfl <;> rfl⟩
theorem place6 (b1 k1 n2 c2 n3 c3 n4 c4 n5 c5 n6 c6 n7 c7 : Nat) : placeP (F6 b1 k1 n2 c2 n3 c3 n4 c4 n5 c5 n6 c6 n7 c7) 1 (⟨#[108]⟩ : ByteArray) 3 = (1, (⟨#[108]⟩ : ByteArray), 0) := by kernel_rfl
theorem find6 (b1 k1 n2 c2 n3 c3 n4 c4 n5 c5 n6 c6 n7 c7 : Nat) : find (F6 b1 k1 n2 c2 n3 c3 n4 c4 n5 c5 n6 c6 n7 c7).L 1 = some (x1_4 b1 k1 n2 c2 n3 c3 n4 c4 n5 c5) := by kernel_rfl
theorem free6 (b1 k1 n2 c2 n3 c3 n4 c4 n5 c5 n6 c6 n7 c7 : Nat) : FreeN (F6 b1 k1 n2 c2 n3 c3 n4 c4 n5 c5 n6 c6 n7 c7).L 8 := ⟨by decide, by show 8 ≤ 8; decide, by kernel_rfl, fun j h1 h2 => by
  have h : j = 1 ∨ j = 2 ∨ j = 3 ∨ j = 4 ∨ j = 5 ∨ j = 6 ∨ j = 7 := by omega
  rcases h with rfl | rfl | rfl | rfl | rfl | rfl | rfl <;> rfl⟩
set_option linter.unusedSimpArgs false in
theorem keysR : KeysS (K.putM (K.putM (K.putM (K.putM (fun _ => none) (⟨#[100]⟩ : ByteArray) 2) (⟨#[97]⟩ : ByteArray) 4) (⟨#[46, 104]⟩ : ByteArray) 5) (⟨#[108]⟩ : ByteArray) 8) [(⟨#[46, 104]⟩ : ByteArray), (⟨#[97]⟩ : ByteArray), (⟨#[100]⟩ : ByteArray), (⟨#[108]⟩ : ByteArray)] := by
  refine ⟨?_, fun s => ?_⟩
  · show List.Pairwise _ [(⟨#[46, 104]⟩ : ByteArray), (⟨#[97]⟩ : ByteArray), (⟨#[100]⟩ : ByteArray), (⟨#[108]⟩ : ByteArray)]
    simp only [List.pairwise_cons, List.mem_cons, List.not_mem_nil, or_false, forall_eq_or_imp, forall_eq, List.Pairwise.nil, and_true, false_implies, implies_true]
    decide
  · unfold K.putM
    simp only [List.mem_cons, List.not_mem_nil, or_false]
    by_cases h8 : s = (⟨#[108]⟩ : ByteArray)
    · simp [h8]
    by_cases h5 : s = (⟨#[46, 104]⟩ : ByteArray)
    · simp [h5]
    by_cases h4 : s = (⟨#[97]⟩ : ByteArray)
    · simp [h4]
    by_cases h2 : s = (⟨#[100]⟩ : ByteArray)
    · simp [h2]
    simp [h2, h4, h5, h8]
set_option linter.unusedSimpArgs false in
theorem keysD : KeysS (K.putM (K.putM (fun _ => none) (⟨#[101]⟩ : ByteArray) 3) (⟨#[102]⟩ : ByteArray) 6) [(⟨#[101]⟩ : ByteArray), (⟨#[102]⟩ : ByteArray)] := by
  refine ⟨?_, fun s => ?_⟩
  · show List.Pairwise _ [(⟨#[101]⟩ : ByteArray), (⟨#[102]⟩ : ByteArray)]
    simp only [List.pairwise_cons, List.mem_cons, List.not_mem_nil, or_false, forall_eq_or_imp, forall_eq, List.Pairwise.nil, and_true, false_implies, implies_true]
    decide
  · unfold K.putM
    simp only [List.mem_cons, List.not_mem_nil, or_false]
    by_cases h6 : s = (⟨#[102]⟩ : ByteArray)
    · simp [h6]
    by_cases h3 : s = (⟨#[101]⟩ : ByteArray)
    · simp [h3]
    simp [h3, h6]
theorem nm_root (b1 k1 n2 c2 n3 c3 n4 c4 n5 c5 n6 c6 n7 c7 n8 c8 : Nat) : nmC (F7 b1 k1 n2 c2 n3 c3 n4 c4 n5 c5 n6 c6 n7 c7 n8 c8) 1 ⟨#[]⟩ = [(⟨#[46, 104]⟩ : ByteArray), (⟨#[97]⟩ : ByteArray), (⟨#[100]⟩ : ByteArray), (⟨#[108]⟩ : ByteArray)] := by
  refine (nmC_eq ?_).symm
  unfold NamesS
  rw [if_pos (show ByteArray.size ⟨#[]⟩ = 0 from rfl)]
  exact keysR
theorem walk_d (b1 k1 n2 c2 n3 c3 n4 c4 n5 c5 n6 c6 n7 c7 n8 c8 : Nat) : WalkP (F7 b1 k1 n2 c2 n3 c3 n4 c4 n5 c5 n6 c6 n7 c7 n8 c8) 1 (⟨#[100, 47]⟩ : ByteArray) true = (2, 0) := by kernel_rfl
theorem nm_d (b1 k1 n2 c2 n3 c3 n4 c4 n5 c5 n6 c6 n7 c7 n8 c8 : Nat) : nmC (F7 b1 k1 n2 c2 n3 c3 n4 c4 n5 c5 n6 c6 n7 c7 n8 c8) 1 (⟨#[100, 47]⟩ : ByteArray) = [(⟨#[101]⟩ : ByteArray), (⟨#[102]⟩ : ByteArray)] := by
  refine (nmC_eq ?_).symm
  unfold NamesS
  rw [if_neg (show ¬ ByteArray.size (⟨#[100, 47]⟩ : ByteArray) = 0 by decide), walk_d, if_neg (by decide)]
  exact keysD
theorem exp_found {nm : ByteArray → List ByteArray} {ok : ByteArray → Bool} {t : List Ch} {l : List ByteArray} (hs : (partsL t).any spP = true) (hf : foundO nm ok t = l) (hn : l ≠ []) (hp : l.Pairwise fun a b => leS a b = true) : expandO nm ok t = l := by
  unfold expandO
  rw [if_neg (by rw [hs]; decide), if_neg (by rw [hf]; exact hn), hf]
  exact List.mergeSort_of_pairwise hp
theorem exp_none {nm : ByteArray → List ByteArray} {ok : ByteArray → Bool} {t : List Ch} (hf : foundO nm ok t = []) : expandO nm ok t = [plainB t] := by
  unfold expandO
  split
  · rfl
  · rfl
theorem exp_plain {nm : ByteArray → List ByteArray} {ok : ByteArray → Bool} {t : List Ch} (hs : (partsL t).any spP = false) : expandO nm ok t = [plainB t] := by
  unfold expandO
  rw [if_pos hs]
set_option linter.unusedSimpArgs false
theorem found21 (b1 k1 n2 c2 n3 c3 n4 c4 n5 c5 n6 c6 n7 c7 n8 c8 : Nat) : foundO (nmC (F7 b1 k1 n2 c2 n3 c3 n4 c4 n5 c5 n6 c6 n7 c7 n8 c8) 1) (okC (F7 b1 k1 n2 c2 n3 c3 n4 c4 n5 c5 n6 c6 n7 c7 n8 c8) 1) (markL (bs (⟨#[42]⟩ : ByteArray)) false) = [(⟨#[97]⟩ : ByteArray), (⟨#[100]⟩ : ByteArray), (⟨#[108]⟩ : ByteArray)] := by
  have h : ∀ nm : ByteArray → List ByteArray, nm (⟨#[]⟩ : ByteArray) = [(⟨#[46, 104]⟩ : ByteArray), (⟨#[97]⟩ : ByteArray), (⟨#[100]⟩ : ByteArray), (⟨#[108]⟩ : ByteArray)] → foundO nm (okC (F7 b1 k1 n2 c2 n3 c3 n4 c4 n5 c5 n6 c6 n7 c7 n8 c8) 1) (markL (bs (⟨#[42]⟩ : ByteArray)) false) = [(⟨#[97]⟩ : ByteArray), (⟨#[100]⟩ : ByteArray), (⟨#[108]⟩ : ByteArray)] := fun nm h => by
    have e : foundO nm (okC (F7 b1 k1 n2 c2 n3 c3 n4 c4 n5 c5 n6 c6 n7 c7 n8 c8) 1) (markL (bs (⟨#[42]⟩ : ByteArray)) false) = (((nm (⟨#[]⟩ : ByteArray)).filter fun s => pathB (compileL [(⟨42, false⟩ : Ch)] true) (bs s)).flatMap (stepO nm (okC (F7 b1 k1 n2 c2 n3 c3 n4 c4 n5 c5 n6 c6 n7 c7 n8 c8) 1) (⟨#[]⟩ : ByteArray) (⟨#[]⟩ : ByteArray) [])) := by kernel_rfl
    have e2 : (([(⟨#[46, 104]⟩ : ByteArray), (⟨#[97]⟩ : ByteArray), (⟨#[100]⟩ : ByteArray), (⟨#[108]⟩ : ByteArray)].filter fun s => pathB (compileL [(⟨42, false⟩ : Ch)] true) (bs s)).flatMap (stepO nm (okC (F7 b1 k1 n2 c2 n3 c3 n4 c4 n5 c5 n6 c6 n7 c7 n8 c8) 1) (⟨#[]⟩ : ByteArray) (⟨#[]⟩ : ByteArray) [])) = [(⟨#[97]⟩ : ByteArray), (⟨#[100]⟩ : ByteArray), (⟨#[108]⟩ : ByteArray)] := by kernel_rfl
    rw [e, h]
    exact e2
  exact h _ (nm_root b1 k1 n2 c2 n3 c3 n4 c4 n5 c5 n6 c6 n7 c7 n8 c8)
theorem ans1 (b1 k1 n2 c2 n3 c3 n4 c4 n5 c5 n6 c6 n7 c7 n8 c8 : Nat) : expC (F7 b1 k1 n2 c2 n3 c3 n4 c4 n5 c5 n6 c6 n7 c7 n8 c8) 1 (markL (bs (⟨#[42]⟩ : ByteArray)) false) = [(⟨#[97]⟩ : ByteArray), (⟨#[100]⟩ : ByteArray), (⟨#[108]⟩ : ByteArray)] := by
  refine exp_found (by kernel_rfl) (found21 b1 k1 n2 c2 n3 c3 n4 c4 n5 c5 n6 c6 n7 c7 n8 c8) (by simp) ?_
  simp only [List.pairwise_cons, List.mem_cons, List.not_mem_nil, or_false, forall_eq_or_imp, forall_eq, List.Pairwise.nil, and_true, false_implies, implies_true] <;> decide
theorem found22 (b1 k1 n2 c2 n3 c3 n4 c4 n5 c5 n6 c6 n7 c7 n8 c8 : Nat) : foundO (nmC (F7 b1 k1 n2 c2 n3 c3 n4 c4 n5 c5 n6 c6 n7 c7 n8 c8) 1) (okC (F7 b1 k1 n2 c2 n3 c3 n4 c4 n5 c5 n6 c6 n7 c7 n8 c8) 1) (markL (bs (⟨#[46, 42]⟩ : ByteArray)) false) = [(⟨#[46, 104]⟩ : ByteArray)] := by
  have h : ∀ nm : ByteArray → List ByteArray, nm (⟨#[]⟩ : ByteArray) = [(⟨#[46, 104]⟩ : ByteArray), (⟨#[97]⟩ : ByteArray), (⟨#[100]⟩ : ByteArray), (⟨#[108]⟩ : ByteArray)] → foundO nm (okC (F7 b1 k1 n2 c2 n3 c3 n4 c4 n5 c5 n6 c6 n7 c7 n8 c8) 1) (markL (bs (⟨#[46, 42]⟩ : ByteArray)) false) = [(⟨#[46, 104]⟩ : ByteArray)] := fun nm h => by
    have e : foundO nm (okC (F7 b1 k1 n2 c2 n3 c3 n4 c4 n5 c5 n6 c6 n7 c7 n8 c8) 1) (markL (bs (⟨#[46, 42]⟩ : ByteArray)) false) = (((nm (⟨#[]⟩ : ByteArray)).filter fun s => pathB (compileL [(⟨46, false⟩ : Ch), (⟨42, false⟩ : Ch)] true) (bs s)).flatMap (stepO nm (okC (F7 b1 k1 n2 c2 n3 c3 n4 c4 n5 c5 n6 c6 n7 c7 n8 c8) 1) (⟨#[]⟩ : ByteArray) (⟨#[]⟩ : ByteArray) [])) := by kernel_rfl
    have e2 : (([(⟨#[46, 104]⟩ : ByteArray), (⟨#[97]⟩ : ByteArray), (⟨#[100]⟩ : ByteArray), (⟨#[108]⟩ : ByteArray)].filter fun s => pathB (compileL [(⟨46, false⟩ : Ch), (⟨42, false⟩ : Ch)] true) (bs s)).flatMap (stepO nm (okC (F7 b1 k1 n2 c2 n3 c3 n4 c4 n5 c5 n6 c6 n7 c7 n8 c8) 1) (⟨#[]⟩ : ByteArray) (⟨#[]⟩ : ByteArray) [])) = [(⟨#[46, 104]⟩ : ByteArray)] := by kernel_rfl
    rw [e, h]
    exact e2
  exact h _ (nm_root b1 k1 n2 c2 n3 c3 n4 c4 n5 c5 n6 c6 n7 c7 n8 c8)
theorem ans2 (b1 k1 n2 c2 n3 c3 n4 c4 n5 c5 n6 c6 n7 c7 n8 c8 : Nat) : expC (F7 b1 k1 n2 c2 n3 c3 n4 c4 n5 c5 n6 c6 n7 c7 n8 c8) 1 (markL (bs (⟨#[46, 42]⟩ : ByteArray)) false) = [(⟨#[46, 104]⟩ : ByteArray)] := by
  refine exp_found (by kernel_rfl) (found22 b1 k1 n2 c2 n3 c3 n4 c4 n5 c5 n6 c6 n7 c7 n8 c8) (by simp) ?_
  simp only [List.pairwise_cons, List.mem_cons, List.not_mem_nil, or_false, forall_eq_or_imp, forall_eq, List.Pairwise.nil, and_true, false_implies, implies_true] <;> decide
theorem found23 (b1 k1 n2 c2 n3 c3 n4 c4 n5 c5 n6 c6 n7 c7 n8 c8 : Nat) : foundO (nmC (F7 b1 k1 n2 c2 n3 c3 n4 c4 n5 c5 n6 c6 n7 c7 n8 c8) 1) (okC (F7 b1 k1 n2 c2 n3 c3 n4 c4 n5 c5 n6 c6 n7 c7 n8 c8) 1) (markL (bs (⟨#[42, 47, 102]⟩ : ByteArray)) false) = [(⟨#[100, 47, 102]⟩ : ByteArray), (⟨#[108, 47, 102]⟩ : ByteArray)] := by
  have h : ∀ nm : ByteArray → List ByteArray, nm (⟨#[]⟩ : ByteArray) = [(⟨#[46, 104]⟩ : ByteArray), (⟨#[97]⟩ : ByteArray), (⟨#[100]⟩ : ByteArray), (⟨#[108]⟩ : ByteArray)] → foundO nm (okC (F7 b1 k1 n2 c2 n3 c3 n4 c4 n5 c5 n6 c6 n7 c7 n8 c8) 1) (markL (bs (⟨#[42, 47, 102]⟩ : ByteArray)) false) = [(⟨#[100, 47, 102]⟩ : ByteArray), (⟨#[108, 47, 102]⟩ : ByteArray)] := fun nm h => by
    have e : foundO nm (okC (F7 b1 k1 n2 c2 n3 c3 n4 c4 n5 c5 n6 c6 n7 c7 n8 c8) 1) (markL (bs (⟨#[42, 47, 102]⟩ : ByteArray)) false) = (((nm (⟨#[]⟩ : ByteArray)).filter fun s => pathB (compileL [(⟨42, false⟩ : Ch)] true) (bs s)).flatMap (stepO nm (okC (F7 b1 k1 n2 c2 n3 c3 n4 c4 n5 c5 n6 c6 n7 c7 n8 c8) 1) (⟨#[]⟩ : ByteArray) (⟨#[]⟩ : ByteArray) [[(⟨102, false⟩ : Ch)]])) := by kernel_rfl
    have e2 : (([(⟨#[46, 104]⟩ : ByteArray), (⟨#[97]⟩ : ByteArray), (⟨#[100]⟩ : ByteArray), (⟨#[108]⟩ : ByteArray)].filter fun s => pathB (compileL [(⟨42, false⟩ : Ch)] true) (bs s)).flatMap (stepO nm (okC (F7 b1 k1 n2 c2 n3 c3 n4 c4 n5 c5 n6 c6 n7 c7 n8 c8) 1) (⟨#[]⟩ : ByteArray) (⟨#[]⟩ : ByteArray) [[(⟨102, false⟩ : Ch)]])) = [(⟨#[100, 47, 102]⟩ : ByteArray), (⟨#[108, 47, 102]⟩ : ByteArray)] := by kernel_rfl
    rw [e, h]
    exact e2
  exact h _ (nm_root b1 k1 n2 c2 n3 c3 n4 c4 n5 c5 n6 c6 n7 c7 n8 c8)
theorem ans3 (b1 k1 n2 c2 n3 c3 n4 c4 n5 c5 n6 c6 n7 c7 n8 c8 : Nat) : expC (F7 b1 k1 n2 c2 n3 c3 n4 c4 n5 c5 n6 c6 n7 c7 n8 c8) 1 (markL (bs (⟨#[42, 47, 102]⟩ : ByteArray)) false) = [(⟨#[100, 47, 102]⟩ : ByteArray), (⟨#[108, 47, 102]⟩ : ByteArray)] := by
  refine exp_found (by kernel_rfl) (found23 b1 k1 n2 c2 n3 c3 n4 c4 n5 c5 n6 c6 n7 c7 n8 c8) (by simp) ?_
  simp only [List.pairwise_cons, List.mem_cons, List.not_mem_nil, or_false, forall_eq_or_imp, forall_eq, List.Pairwise.nil, and_true, false_implies, implies_true] <;> decide
theorem found24 (b1 k1 n2 c2 n3 c3 n4 c4 n5 c5 n6 c6 n7 c7 n8 c8 : Nat) : foundO (nmC (F7 b1 k1 n2 c2 n3 c3 n4 c4 n5 c5 n6 c6 n7 c7 n8 c8) 1) (okC (F7 b1 k1 n2 c2 n3 c3 n4 c4 n5 c5 n6 c6 n7 c7 n8 c8) 1) (markL (bs (⟨#[42, 47]⟩ : ByteArray)) false) = [(⟨#[100, 47]⟩ : ByteArray), (⟨#[108, 47]⟩ : ByteArray)] := by
  have h : ∀ nm : ByteArray → List ByteArray, nm (⟨#[]⟩ : ByteArray) = [(⟨#[46, 104]⟩ : ByteArray), (⟨#[97]⟩ : ByteArray), (⟨#[100]⟩ : ByteArray), (⟨#[108]⟩ : ByteArray)] → foundO nm (okC (F7 b1 k1 n2 c2 n3 c3 n4 c4 n5 c5 n6 c6 n7 c7 n8 c8) 1) (markL (bs (⟨#[42, 47]⟩ : ByteArray)) false) = [(⟨#[100, 47]⟩ : ByteArray), (⟨#[108, 47]⟩ : ByteArray)] := fun nm h => by
    have e : foundO nm (okC (F7 b1 k1 n2 c2 n3 c3 n4 c4 n5 c5 n6 c6 n7 c7 n8 c8) 1) (markL (bs (⟨#[42, 47]⟩ : ByteArray)) false) = (((nm (⟨#[]⟩ : ByteArray)).filter fun s => pathB (compileL [(⟨42, false⟩ : Ch)] true) (bs s)).flatMap (stepO nm (okC (F7 b1 k1 n2 c2 n3 c3 n4 c4 n5 c5 n6 c6 n7 c7 n8 c8) 1) (⟨#[47]⟩ : ByteArray) (⟨#[]⟩ : ByteArray) [])) := by kernel_rfl
    have e2 : (([(⟨#[46, 104]⟩ : ByteArray), (⟨#[97]⟩ : ByteArray), (⟨#[100]⟩ : ByteArray), (⟨#[108]⟩ : ByteArray)].filter fun s => pathB (compileL [(⟨42, false⟩ : Ch)] true) (bs s)).flatMap (stepO nm (okC (F7 b1 k1 n2 c2 n3 c3 n4 c4 n5 c5 n6 c6 n7 c7 n8 c8) 1) (⟨#[47]⟩ : ByteArray) (⟨#[]⟩ : ByteArray) [])) = [(⟨#[100, 47]⟩ : ByteArray), (⟨#[108, 47]⟩ : ByteArray)] := by kernel_rfl
    rw [e, h]
    exact e2
  exact h _ (nm_root b1 k1 n2 c2 n3 c3 n4 c4 n5 c5 n6 c6 n7 c7 n8 c8)
theorem ans4 (b1 k1 n2 c2 n3 c3 n4 c4 n5 c5 n6 c6 n7 c7 n8 c8 : Nat) : expC (F7 b1 k1 n2 c2 n3 c3 n4 c4 n5 c5 n6 c6 n7 c7 n8 c8) 1 (markL (bs (⟨#[42, 47]⟩ : ByteArray)) false) = [(⟨#[100, 47]⟩ : ByteArray), (⟨#[108, 47]⟩ : ByteArray)] := by
  refine exp_found (by kernel_rfl) (found24 b1 k1 n2 c2 n3 c3 n4 c4 n5 c5 n6 c6 n7 c7 n8 c8) (by simp) ?_
  simp only [List.pairwise_cons, List.mem_cons, List.not_mem_nil, or_false, forall_eq_or_imp, forall_eq, List.Pairwise.nil, and_true, false_implies, implies_true] <;> decide
theorem found25 (b1 k1 n2 c2 n3 c3 n4 c4 n5 c5 n6 c6 n7 c7 n8 c8 : Nat) : foundO (nmC (F7 b1 k1 n2 c2 n3 c3 n4 c4 n5 c5 n6 c6 n7 c7 n8 c8) 1) (okC (F7 b1 k1 n2 c2 n3 c3 n4 c4 n5 c5 n6 c6 n7 c7 n8 c8) 1) (markL (bs (⟨#[100, 47, 42, 47, 103]⟩ : ByteArray)) false) = [(⟨#[100, 47, 101, 47, 103]⟩ : ByteArray)] := by
  have h : ∀ nm : ByteArray → List ByteArray, nm (⟨#[100, 47]⟩ : ByteArray) = [(⟨#[101]⟩ : ByteArray), (⟨#[102]⟩ : ByteArray)] → foundO nm (okC (F7 b1 k1 n2 c2 n3 c3 n4 c4 n5 c5 n6 c6 n7 c7 n8 c8) 1) (markL (bs (⟨#[100, 47, 42, 47, 103]⟩ : ByteArray)) false) = [(⟨#[100, 47, 101, 47, 103]⟩ : ByteArray)] := fun nm h => by
    have e : foundO nm (okC (F7 b1 k1 n2 c2 n3 c3 n4 c4 n5 c5 n6 c6 n7 c7 n8 c8) 1) (markL (bs (⟨#[100, 47, 42, 47, 103]⟩ : ByteArray)) false) = (((nm (⟨#[100, 47]⟩ : ByteArray)).filter fun s => pathB (compileL [(⟨42, false⟩ : Ch)] true) (bs s)).flatMap (stepO nm (okC (F7 b1 k1 n2 c2 n3 c3 n4 c4 n5 c5 n6 c6 n7 c7 n8 c8) 1) (⟨#[]⟩ : ByteArray) (⟨#[100, 47]⟩ : ByteArray) [[(⟨103, false⟩ : Ch)]])) ++ [] := by kernel_rfl
    have e2 : (([(⟨#[101]⟩ : ByteArray), (⟨#[102]⟩ : ByteArray)].filter fun s => pathB (compileL [(⟨42, false⟩ : Ch)] true) (bs s)).flatMap (stepO nm (okC (F7 b1 k1 n2 c2 n3 c3 n4 c4 n5 c5 n6 c6 n7 c7 n8 c8) 1) (⟨#[]⟩ : ByteArray) (⟨#[100, 47]⟩ : ByteArray) [[(⟨103, false⟩ : Ch)]])) ++ [] = [(⟨#[100, 47, 101, 47, 103]⟩ : ByteArray)] := by kernel_rfl
    rw [e, h]
    exact e2
  exact h _ (nm_d b1 k1 n2 c2 n3 c3 n4 c4 n5 c5 n6 c6 n7 c7 n8 c8)
theorem ans5 (b1 k1 n2 c2 n3 c3 n4 c4 n5 c5 n6 c6 n7 c7 n8 c8 : Nat) : expC (F7 b1 k1 n2 c2 n3 c3 n4 c4 n5 c5 n6 c6 n7 c7 n8 c8) 1 (markL (bs (⟨#[100, 47, 42, 47, 103]⟩ : ByteArray)) false) = [(⟨#[100, 47, 101, 47, 103]⟩ : ByteArray)] := by
  refine exp_found (by kernel_rfl) (found25 b1 k1 n2 c2 n3 c3 n4 c4 n5 c5 n6 c6 n7 c7 n8 c8) (by simp) ?_
  simp only [List.pairwise_cons, List.mem_cons, List.not_mem_nil, or_false, forall_eq_or_imp, forall_eq, List.Pairwise.nil, and_true, false_implies, implies_true] <;> decide
theorem found26 (b1 k1 n2 c2 n3 c3 n4 c4 n5 c5 n6 c6 n7 c7 n8 c8 : Nat) : foundO (nmC (F7 b1 k1 n2 c2 n3 c3 n4 c4 n5 c5 n6 c6 n7 c7 n8 c8) 1) (okC (F7 b1 k1 n2 c2 n3 c3 n4 c4 n5 c5 n6 c6 n7 c7 n8 c8) 1) (markL (bs (⟨#[120, 42]⟩ : ByteArray)) false) = [] := by
  have h : ∀ nm : ByteArray → List ByteArray, nm (⟨#[]⟩ : ByteArray) = [(⟨#[46, 104]⟩ : ByteArray), (⟨#[97]⟩ : ByteArray), (⟨#[100]⟩ : ByteArray), (⟨#[108]⟩ : ByteArray)] → foundO nm (okC (F7 b1 k1 n2 c2 n3 c3 n4 c4 n5 c5 n6 c6 n7 c7 n8 c8) 1) (markL (bs (⟨#[120, 42]⟩ : ByteArray)) false) = [] := fun nm h => by
    have e : foundO nm (okC (F7 b1 k1 n2 c2 n3 c3 n4 c4 n5 c5 n6 c6 n7 c7 n8 c8) 1) (markL (bs (⟨#[120, 42]⟩ : ByteArray)) false) = (((nm (⟨#[]⟩ : ByteArray)).filter fun s => pathB (compileL [(⟨120, false⟩ : Ch), (⟨42, false⟩ : Ch)] true) (bs s)).flatMap (stepO nm (okC (F7 b1 k1 n2 c2 n3 c3 n4 c4 n5 c5 n6 c6 n7 c7 n8 c8) 1) (⟨#[]⟩ : ByteArray) (⟨#[]⟩ : ByteArray) [])) := by kernel_rfl
    have e2 : (([(⟨#[46, 104]⟩ : ByteArray), (⟨#[97]⟩ : ByteArray), (⟨#[100]⟩ : ByteArray), (⟨#[108]⟩ : ByteArray)].filter fun s => pathB (compileL [(⟨120, false⟩ : Ch), (⟨42, false⟩ : Ch)] true) (bs s)).flatMap (stepO nm (okC (F7 b1 k1 n2 c2 n3 c3 n4 c4 n5 c5 n6 c6 n7 c7 n8 c8) 1) (⟨#[]⟩ : ByteArray) (⟨#[]⟩ : ByteArray) [])) = [] := by kernel_rfl
    rw [e, h]
    exact e2
  exact h _ (nm_root b1 k1 n2 c2 n3 c3 n4 c4 n5 c5 n6 c6 n7 c7 n8 c8)
theorem ans6 (b1 k1 n2 c2 n3 c3 n4 c4 n5 c5 n6 c6 n7 c7 n8 c8 : Nat) : expC (F7 b1 k1 n2 c2 n3 c3 n4 c4 n5 c5 n6 c6 n7 c7 n8 c8) 1 (markL (bs (⟨#[120, 42]⟩ : ByteArray)) false) = [(⟨#[120, 42]⟩ : ByteArray)] := by
  rw [show expC (F7 b1 k1 n2 c2 n3 c3 n4 c4 n5 c5 n6 c6 n7 c7 n8 c8) 1 (markL (bs (⟨#[120, 42]⟩ : ByteArray)) false) = [plainB (markL (bs (⟨#[120, 42]⟩ : ByteArray)) false)] from exp_none (found26 b1 k1 n2 c2 n3 c3 n4 c4 n5 c5 n6 c6 n7 c7 n8 c8)]
  kernel_rfl
theorem found7_le (b1 k1 n2 c2 n3 c3 n4 c4 n5 c5 n6 c6 n7 c7 n8 c8 : Nat) : (foundO (nmC (F7 b1 k1 n2 c2 n3 c3 n4 c4 n5 c5 n6 c6 n7 c7 n8 c8) 1) (okC (F7 b1 k1 n2 c2 n3 c3 n4 c4 n5 c5 n6 c6 n7 c7 n8 c8) 1) (markL (bs (⟨#[42]⟩ : ByteArray)) true)).length ≤ 1000000 := by
  have h : ∀ (nm : ByteArray → List ByteArray) (ok : ByteArray → Bool), (foundO nm ok (markL (bs (⟨#[42]⟩ : ByteArray)) true)).length ≤ 1000000 := fun nm ok => by
    have e : foundO nm ok (markL (bs (⟨#[42]⟩ : ByteArray)) true) = (if ok (⟨#[42]⟩ : ByteArray) = true then [(⟨#[42]⟩ : ByteArray)] else []) ++ [] := by kernel_rfl
    rw [e]
    split <;> simp
  exact h _ _
theorem ans7 (b1 k1 n2 c2 n3 c3 n4 c4 n5 c5 n6 c6 n7 c7 n8 c8 : Nat) : expC (F7 b1 k1 n2 c2 n3 c3 n4 c4 n5 c5 n6 c6 n7 c7 n8 c8) 1 (markL (bs (⟨#[42]⟩ : ByteArray)) true) = [(⟨#[42]⟩ : ByteArray)] := by
  rw [show expC (F7 b1 k1 n2 c2 n3 c3 n4 c4 n5 c5 n6 c6 n7 c7 n8 c8) 1 (markL (bs (⟨#[42]⟩ : ByteArray)) true) = [plainB (markL (bs (⟨#[42]⟩ : ByteArray)) true)] from exp_plain (by kernel_rfl)]
  kernel_rfl
end Aw
end Go.Proofs.YtndjgeohkfenfaaGreatDoor.Globs

namespace Go.Proofs.YtndjgeohkfenfaaGreatDoor.Globs
open Go.RowKit Go.Proofs.YtndjgeohkfenfaaGreatDoor Go.Proofs.YtndjgeohkfenfaaGreatDoor.Hp
open Go.Proofs.YtndjgeohkfenfaaGreatDoor.Hd (fsHp Fs Nd Kd K.putM TreeG Glob WalkP NamesS pp FsOk NumsOk newF rootN madeG mkN placeP find FreeN KeysS ListS make_step tree_new New_calls)
set_option linter.unusedVariables false
attribute [local go_sem] Oper.semAt_some

namespace Aw
theorem most0 (b1 k1 : Nat) : ((F0 b1 k1).L.length : Int) < (F0 b1 k1).most := by
  have h1 : (F0 b1 k1).L.length = 1 := by kernel_rfl
  have h2 : (F0 b1 k1).most = 20 := by kernel_rfl
  rw [h1, h2]; decide
theorem room0 (b1 k1 : Nat) : ((⟨#[]⟩ : ByteArray).size : Int) ≤ (F0 b1 k1).room - (F0 b1 k1).used := by
  have h1 : (F0 b1 k1).room - (F0 b1 k1).used = 100 := by kernel_rfl
  rw [h1]; decide
theorem most1 (b1 k1 n2 c2 : Nat) : ((F1 b1 k1 n2 c2).L.length : Int) < (F1 b1 k1 n2 c2).most := by
  have h1 : (F1 b1 k1 n2 c2).L.length = 2 := by kernel_rfl
  have h2 : (F1 b1 k1 n2 c2).most = 20 := by kernel_rfl
  rw [h1, h2]; decide
theorem room1 (b1 k1 n2 c2 : Nat) : ((⟨#[]⟩ : ByteArray).size : Int) ≤ (F1 b1 k1 n2 c2).room - (F1 b1 k1 n2 c2).used := by
  have h1 : (F1 b1 k1 n2 c2).room - (F1 b1 k1 n2 c2).used = 100 := by kernel_rfl
  rw [h1]; decide
theorem most2 (b1 k1 n2 c2 n3 c3 : Nat) : ((F2 b1 k1 n2 c2 n3 c3).L.length : Int) < (F2 b1 k1 n2 c2 n3 c3).most := by
  have h1 : (F2 b1 k1 n2 c2 n3 c3).L.length = 3 := by kernel_rfl
  have h2 : (F2 b1 k1 n2 c2 n3 c3).most = 20 := by kernel_rfl
  rw [h1, h2]; decide
theorem room2 (b1 k1 n2 c2 n3 c3 : Nat) : ((⟨#[]⟩ : ByteArray).size : Int) ≤ (F2 b1 k1 n2 c2 n3 c3).room - (F2 b1 k1 n2 c2 n3 c3).used := by
  have h1 : (F2 b1 k1 n2 c2 n3 c3).room - (F2 b1 k1 n2 c2 n3 c3).used = 100 := by kernel_rfl
  rw [h1]; decide
theorem most3 (b1 k1 n2 c2 n3 c3 n4 c4 : Nat) : ((F3 b1 k1 n2 c2 n3 c3 n4 c4).L.length : Int) < (F3 b1 k1 n2 c2 n3 c3 n4 c4).most := by
  have h1 : (F3 b1 k1 n2 c2 n3 c3 n4 c4).L.length = 4 := by kernel_rfl
  have h2 : (F3 b1 k1 n2 c2 n3 c3 n4 c4).most = 20 := by kernel_rfl
  rw [h1, h2]; decide
theorem room3 (b1 k1 n2 c2 n3 c3 n4 c4 : Nat) : ((⟨#[]⟩ : ByteArray).size : Int) ≤ (F3 b1 k1 n2 c2 n3 c3 n4 c4).room - (F3 b1 k1 n2 c2 n3 c3 n4 c4).used := by
  have h1 : (F3 b1 k1 n2 c2 n3 c3 n4 c4).room - (F3 b1 k1 n2 c2 n3 c3 n4 c4).used = 100 := by kernel_rfl
  rw [h1]; decide
theorem most4 (b1 k1 n2 c2 n3 c3 n4 c4 n5 c5 : Nat) : ((F4 b1 k1 n2 c2 n3 c3 n4 c4 n5 c5).L.length : Int) < (F4 b1 k1 n2 c2 n3 c3 n4 c4 n5 c5).most := by
  have h1 : (F4 b1 k1 n2 c2 n3 c3 n4 c4 n5 c5).L.length = 5 := by kernel_rfl
  have h2 : (F4 b1 k1 n2 c2 n3 c3 n4 c4 n5 c5).most = 20 := by kernel_rfl
  rw [h1, h2]; decide
theorem room4 (b1 k1 n2 c2 n3 c3 n4 c4 n5 c5 : Nat) : ((⟨#[]⟩ : ByteArray).size : Int) ≤ (F4 b1 k1 n2 c2 n3 c3 n4 c4 n5 c5).room - (F4 b1 k1 n2 c2 n3 c3 n4 c4 n5 c5).used := by
  have h1 : (F4 b1 k1 n2 c2 n3 c3 n4 c4 n5 c5).room - (F4 b1 k1 n2 c2 n3 c3 n4 c4 n5 c5).used = 100 := by kernel_rfl
  rw [h1]; decide
theorem most5 (b1 k1 n2 c2 n3 c3 n4 c4 n5 c5 n6 c6 : Nat) : ((F5 b1 k1 n2 c2 n3 c3 n4 c4 n5 c5 n6 c6).L.length : Int) < (F5 b1 k1 n2 c2 n3 c3 n4 c4 n5 c5 n6 c6).most := by
  have h1 : (F5 b1 k1 n2 c2 n3 c3 n4 c4 n5 c5 n6 c6).L.length = 6 := by kernel_rfl
  have h2 : (F5 b1 k1 n2 c2 n3 c3 n4 c4 n5 c5 n6 c6).most = 20 := by kernel_rfl
  rw [h1, h2]; decide
theorem room5 (b1 k1 n2 c2 n3 c3 n4 c4 n5 c5 n6 c6 : Nat) : ((⟨#[]⟩ : ByteArray).size : Int) ≤ (F5 b1 k1 n2 c2 n3 c3 n4 c4 n5 c5 n6 c6).room - (F5 b1 k1 n2 c2 n3 c3 n4 c4 n5 c5 n6 c6).used := by
  have h1 : (F5 b1 k1 n2 c2 n3 c3 n4 c4 n5 c5 n6 c6).room - (F5 b1 k1 n2 c2 n3 c3 n4 c4 n5 c5 n6 c6).used = 100 := by kernel_rfl
  rw [h1]; decide
theorem most6 (b1 k1 n2 c2 n3 c3 n4 c4 n5 c5 n6 c6 n7 c7 : Nat) : ((F6 b1 k1 n2 c2 n3 c3 n4 c4 n5 c5 n6 c6 n7 c7).L.length : Int) < (F6 b1 k1 n2 c2 n3 c3 n4 c4 n5 c5 n6 c6 n7 c7).most := by
  have h1 : (F6 b1 k1 n2 c2 n3 c3 n4 c4 n5 c5 n6 c6 n7 c7).L.length = 7 := by kernel_rfl
  have h2 : (F6 b1 k1 n2 c2 n3 c3 n4 c4 n5 c5 n6 c6 n7 c7).most = 20 := by kernel_rfl
  rw [h1, h2]; decide
theorem room6 (b1 k1 n2 c2 n3 c3 n4 c4 n5 c5 n6 c6 n7 c7 : Nat) : ((⟨#[100]⟩ : ByteArray).size : Int) ≤ (F6 b1 k1 n2 c2 n3 c3 n4 c4 n5 c5 n6 c6 n7 c7).room - (F6 b1 k1 n2 c2 n3 c3 n4 c4 n5 c5 n6 c6 n7 c7).used := by
  have h1 : (F6 b1 k1 n2 c2 n3 c3 n4 c4 n5 c5 n6 c6 n7 c7).room - (F6 b1 k1 n2 c2 n3 c3 n4 c4 n5 c5 n6 c6 n7 c7).used = 100 := by kernel_rfl
  rw [h1]; decide
end Aw
theorem lit_strs (w : World) (l : List ByteArray) (hl : l.length ≤ 100) : StrsAt (w.alloc (.cells (l.map Value.string).toArray 9 (0, 0))) (some ⟨w.heap.size, 0, none⟩) l := by
  refine ⟨by omega, fun i hi => ⟨w.heap.size, 0, rfl, by simp, ?_⟩⟩
  rw [cell_at (heap_alloc_new w _)]
  simp
set_option maxRecDepth 100000 in
set_option maxHeartbeats 16000000 in
theorem awake_calls (w : World) (R : Hp) (hG : Glob R) (h : Sat w R) :
    Calls Tryz.prog 7 #[] w fun e w' => (e = .returned (.bool true) ∧ Sat w' R) ∧ Ran w w' := by
  have HN := Lib.hid (New_calls 20 100 (by decide) (by decide) (by decide) (by decide) w R h)
  have HG := Lib.hid hG
  clear hG h
  go_enter Tryz.func7, Tryz.ntmps7
  go_wp2_with fail
  refine HN.out.mono ?_
  rintro e w1 ⟨⟨fb, mb, b1, k1, rfl, S1⟩, R1⟩
  have hT0 := tree_new 20 100 (by decide) b1 k1
  have S1 := Lib.hid S1
  have HT0 := Lib.hid hT0
  clear HN hT0
  have HM1 := Lib.hid (make_step fb mb 1 (Aw.F0 b1 k1) HT0.out (by decide) 1 (⟨#[100]⟩ : ByteArray) 1 (⟨#[]⟩ : ByteArray) 1 (⟨#[100]⟩ : ByteArray) (.inl rfl) (fun _ => rfl) Hd.i64_1 (by decide) (Aw.place0 b1 k1) (Aw.r0 b1 k1) (Aw.q0 k1) (Aw.find0 b1 k1) rfl 2 (Aw.free0 b1 k1) (Aw.most0 b1 k1) (by decide) (Aw.room0 b1 k1) w1 R HG.out S1.out)
  go_wp2_with fail
  refine HM1.out.mono ?_
  rintro e w2 ⟨⟨rfl, n2, c2, hT, hS⟩, R'⟩
  have R2 := Below.trans R1 R'
  have HT1 := Lib.hid (show TreeG 2 (Aw.F1 b1 k1 n2 c2) from hT)
  have S2 := Lib.hid (show Sat w2 (fsHp fb mb (Aw.F1 b1 k1 n2 c2) * R) from hS)
  clear hT hS R' HM1 S1 HT0
  have HM2 := Lib.hid (make_step fb mb 2 (Aw.F1 b1 k1 n2 c2) HT1.out (by decide) 1 (⟨#[100, 47, 101]⟩ : ByteArray) 1 (⟨#[]⟩ : ByteArray) 2 (⟨#[101]⟩ : ByteArray) (.inl rfl) (fun _ => rfl) Hd.i64_1 (by decide) (Aw.place1 b1 k1 n2 c2) (mkN 1 (⟨#[]⟩ : ByteArray) 1 n2 c2) (⟨c2, fun _ => none, 0, 0⟩ : Kd) (Aw.find1 b1 k1 n2 c2) rfl 3 (Aw.free1 b1 k1 n2 c2) (Aw.most1 b1 k1 n2 c2) (by decide) (Aw.room1 b1 k1 n2 c2) w2 R HG.out S2.out)
  go_wp2_with fail
  refine HM2.out.mono ?_
  rintro e w3 ⟨⟨rfl, n3, c3, hT, hS⟩, R'⟩
  have R3 := Below.trans R2 R'
  have HT2 := Lib.hid (show TreeG 3 (Aw.F2 b1 k1 n2 c2 n3 c3) from hT)
  have S3 := Lib.hid (show Sat w3 (fsHp fb mb (Aw.F2 b1 k1 n2 c2 n3 c3) * R) from hS)
  clear hT hS R' HM2 S2 HT1
  have HM3 := Lib.hid (make_step fb mb 3 (Aw.F2 b1 k1 n2 c2 n3 c3) HT2.out (by decide) 1 (⟨#[97]⟩ : ByteArray) 2 (⟨#[]⟩ : ByteArray) 1 (⟨#[97]⟩ : ByteArray) (.inr (.inl rfl)) (fun h => absurd h (by decide)) Hd.i64_1 (by decide) (Aw.place2 b1 k1 n2 c2 n3 c3) (Aw.x1_1 b1 k1 n2 c2) (Aw.kd1_1 b1 k1 n2 c2) (Aw.find2 b1 k1 n2 c2 n3 c3) rfl 4 (Aw.free2 b1 k1 n2 c2 n3 c3) (Aw.most2 b1 k1 n2 c2 n3 c3) (by decide) (Aw.room2 b1 k1 n2 c2 n3 c3) w3 R HG.out S3.out)
  go_wp2_with fail
  refine HM3.out.mono ?_
  rintro e w4 ⟨⟨rfl, n4, c4, hT, hS⟩, R'⟩
  have R4 := Below.trans R3 R'
  have HT3 := Lib.hid (show TreeG 4 (Aw.F3 b1 k1 n2 c2 n3 c3 n4 c4) from hT)
  have S4 := Lib.hid (show Sat w4 (fsHp fb mb (Aw.F3 b1 k1 n2 c2 n3 c3 n4 c4) * R) from hS)
  clear hT hS R' HM3 S3 HT2
  have HM4 := Lib.hid (make_step fb mb 4 (Aw.F3 b1 k1 n2 c2 n3 c3 n4 c4) HT3.out (by decide) 1 (⟨#[46, 104]⟩ : ByteArray) 2 (⟨#[]⟩ : ByteArray) 1 (⟨#[46, 104]⟩ : ByteArray) (.inr (.inl rfl)) (fun h => absurd h (by decide)) Hd.i64_1 (by decide) (Aw.place3 b1 k1 n2 c2 n3 c3 n4 c4) (Aw.x1_3 b1 k1 n2 c2 n3 c3 n4 c4) (Aw.kd1_3 b1 k1 n2 c2 n3 c3 n4 c4) (Aw.find3 b1 k1 n2 c2 n3 c3 n4 c4) rfl 5 (Aw.free3 b1 k1 n2 c2 n3 c3 n4 c4) (Aw.most3 b1 k1 n2 c2 n3 c3 n4 c4) (by decide) (Aw.room3 b1 k1 n2 c2 n3 c3 n4 c4) w4 R HG.out S4.out)
  go_wp2_with fail
  refine HM4.out.mono ?_
  rintro e w5 ⟨⟨rfl, n5, c5, hT, hS⟩, R'⟩
  have R5 := Below.trans R4 R'
  have HT4 := Lib.hid (show TreeG 5 (Aw.F4 b1 k1 n2 c2 n3 c3 n4 c4 n5 c5) from hT)
  have S5 := Lib.hid (show Sat w5 (fsHp fb mb (Aw.F4 b1 k1 n2 c2 n3 c3 n4 c4 n5 c5) * R) from hS)
  clear hT hS R' HM4 S4 HT3
  have HM5 := Lib.hid (make_step fb mb 5 (Aw.F4 b1 k1 n2 c2 n3 c3 n4 c4 n5 c5) HT4.out (by decide) 1 (⟨#[100, 47, 102]⟩ : ByteArray) 2 (⟨#[]⟩ : ByteArray) 2 (⟨#[102]⟩ : ByteArray) (.inr (.inl rfl)) (fun h => absurd h (by decide)) Hd.i64_1 (by decide) (Aw.place4 b1 k1 n2 c2 n3 c3 n4 c4 n5 c5) (Aw.x2_2 b1 k1 n2 c2 n3 c3) (Aw.kd2_2 b1 k1 n2 c2 n3 c3) (Aw.find4 b1 k1 n2 c2 n3 c3 n4 c4 n5 c5) rfl 6 (Aw.free4 b1 k1 n2 c2 n3 c3 n4 c4 n5 c5) (Aw.most4 b1 k1 n2 c2 n3 c3 n4 c4 n5 c5) (by decide) (Aw.room4 b1 k1 n2 c2 n3 c3 n4 c4 n5 c5) w5 R HG.out S5.out)
  go_wp2_with fail
  refine HM5.out.mono ?_
  rintro e w6 ⟨⟨rfl, n6, c6, hT, hS⟩, R'⟩
  have R6 := Below.trans R5 R'
  have HT5 := Lib.hid (show TreeG 6 (Aw.F5 b1 k1 n2 c2 n3 c3 n4 c4 n5 c5 n6 c6) from hT)
  have S6 := Lib.hid (show Sat w6 (fsHp fb mb (Aw.F5 b1 k1 n2 c2 n3 c3 n4 c4 n5 c5 n6 c6) * R) from hS)
  clear hT hS R' HM5 S5 HT4
  have HM6 := Lib.hid (make_step fb mb 6 (Aw.F5 b1 k1 n2 c2 n3 c3 n4 c4 n5 c5 n6 c6) HT5.out (by decide) 1 (⟨#[100, 47, 101, 47, 103]⟩ : ByteArray) 2 (⟨#[]⟩ : ByteArray) 3 (⟨#[103]⟩ : ByteArray) (.inr (.inl rfl)) (fun h => absurd h (by decide)) Hd.i64_1 (by decide) (Aw.place5 b1 k1 n2 c2 n3 c3 n4 c4 n5 c5 n6 c6) (mkN 1 (⟨#[]⟩ : ByteArray) 2 n3 c3) (⟨c3, fun _ => none, 0, 0⟩ : Kd) (Aw.find5 b1 k1 n2 c2 n3 c3 n4 c4 n5 c5 n6 c6) rfl 7 (Aw.free5 b1 k1 n2 c2 n3 c3 n4 c4 n5 c5 n6 c6) (Aw.most5 b1 k1 n2 c2 n3 c3 n4 c4 n5 c5 n6 c6) (by decide) (Aw.room5 b1 k1 n2 c2 n3 c3 n4 c4 n5 c5 n6 c6) w6 R HG.out S6.out)
  go_wp2_with fail
  refine HM6.out.mono ?_
  rintro e w7 ⟨⟨rfl, n7, c7, hT, hS⟩, R'⟩
  have R7 := Below.trans R6 R'
  have HT6 := Lib.hid (show TreeG 7 (Aw.F6 b1 k1 n2 c2 n3 c3 n4 c4 n5 c5 n6 c6 n7 c7) from hT)
  have S7 := Lib.hid (show Sat w7 (fsHp fb mb (Aw.F6 b1 k1 n2 c2 n3 c3 n4 c4 n5 c5 n6 c6 n7 c7) * R) from hS)
  clear hT hS R' HM6 S6 HT5
  have HM7 := Lib.hid (make_step fb mb 7 (Aw.F6 b1 k1 n2 c2 n3 c3 n4 c4 n5 c5 n6 c6 n7 c7) HT6.out (by decide) 1 (⟨#[108]⟩ : ByteArray) 3 (⟨#[100]⟩ : ByteArray) 1 (⟨#[108]⟩ : ByteArray) (.inr (.inr rfl)) (fun h => absurd h (by decide)) Hd.i64_1 (by decide) (Aw.place6 b1 k1 n2 c2 n3 c3 n4 c4 n5 c5 n6 c6 n7 c7) (Aw.x1_4 b1 k1 n2 c2 n3 c3 n4 c4 n5 c5) (Aw.kd1_4 b1 k1 n2 c2 n3 c3 n4 c4 n5 c5) (Aw.find6 b1 k1 n2 c2 n3 c3 n4 c4 n5 c5 n6 c6 n7 c7) rfl 8 (Aw.free6 b1 k1 n2 c2 n3 c3 n4 c4 n5 c5 n6 c6 n7 c7) (Aw.most6 b1 k1 n2 c2 n3 c3 n4 c4 n5 c5 n6 c6 n7 c7) (by decide) (Aw.room6 b1 k1 n2 c2 n3 c3 n4 c4 n5 c5 n6 c6 n7 c7) w7 R HG.out S7.out)
  go_wp2_with fail
  refine HM7.out.mono ?_
  rintro e w8 ⟨⟨rfl, n8, c8, hT, hS⟩, R'⟩
  have R8 := Below.trans R7 R'
  have HT7 := Lib.hid (show TreeG 8 (Aw.F7 b1 k1 n2 c2 n3 c3 n4 c4 n5 c5 n6 c6 n7 c7 n8 c8) from hT)
  have S8 := Lib.hid (show Sat w8 (fsHp fb mb (Aw.F7 b1 k1 n2 c2 n3 c3 n4 c4 n5 c5 n6 c6 n7 c7 n8 c8) * R) from hS)
  clear hT hS R' HM7 S7 HT6
  have hb := lbare_calls fb mb 8 (Aw.F7 b1 k1 n2 c2 n3 c3 n4 c4 n5 c5 n6 c6 n7 c7 n8 c8) HT7.out (by decide) (⟨#[42]⟩ : ByteArray) w8 R HG.out (by decide) (by rw [Aw.found21]; decide) S8.out
  rw [Aw.ans1] at hb
  have hb := Lib.hid hb
  go_wp2_with fail
  refine hb.out.mono ?_
  rintro e w9 ⟨⟨p, c, rfl, hS⟩, R'⟩
  have R9 := Below.trans R8 R'
  have ht := texts_calls [(⟨#[97]⟩ : ByteArray), (⟨#[100]⟩ : ByteArray), (⟨#[108]⟩ : ByteArray)] p (some ⟨w9.heap.size, 0, none⟩) c 3 _ (strsAt_arr (hS.old (.cells ([(⟨#[97]⟩ : ByteArray), (⟨#[100]⟩ : ByteArray), (⟨#[108]⟩ : ByteArray)].map Value.string).toArray 9 (0, 0)))) (lit_strs w9 [(⟨#[97]⟩ : ByteArray), (⟨#[100]⟩ : ByteArray), (⟨#[108]⟩ : ByteArray)] (by decide))
  have ht := Lib.hid ht
  have S9 := Lib.hid (hS.old (.cells ([(⟨#[97]⟩ : ByteArray), (⟨#[100]⟩ : ByteArray), (⟨#[108]⟩ : ByteArray)].map Value.string).toArray 9 (0, 0))).right
  have R10 := Ran.new R9 (.cells ([(⟨#[97]⟩ : ByteArray), (⟨#[100]⟩ : ByteArray), (⟨#[108]⟩ : ByteArray)].map Value.string).toArray 9 (0, 0))
  clear hS R' hb S8
  go_wp2_with fail
  refine ht.out.mono ?_
  rintro e w11 ⟨rfl, B'⟩
  have S11 := Lib.hid (S9.out.below B')
  have R11 := Below.trans R10 (B'.mono (Nat.zero_le _))
  clear B' ht S9
  have hb := lbare_calls fb mb 8 (Aw.F7 b1 k1 n2 c2 n3 c3 n4 c4 n5 c5 n6 c6 n7 c7 n8 c8) HT7.out (by decide) (⟨#[46, 42]⟩ : ByteArray) w11 R HG.out (by decide) (by rw [Aw.found22]; decide) S11.out
  rw [Aw.ans2] at hb
  have hb := Lib.hid hb
  go_wp2_with fail
  refine hb.out.mono ?_
  rintro e w12 ⟨⟨p, c, rfl, hS⟩, R'⟩
  have R12 := Below.trans R11 R'
  have ht := texts_calls [(⟨#[46, 104]⟩ : ByteArray)] p (some ⟨w12.heap.size, 0, none⟩) c 1 _ (strsAt_arr (hS.old (.cells ([(⟨#[46, 104]⟩ : ByteArray)].map Value.string).toArray 9 (0, 0)))) (lit_strs w12 [(⟨#[46, 104]⟩ : ByteArray)] (by decide))
  have ht := Lib.hid ht
  have S12 := Lib.hid (hS.old (.cells ([(⟨#[46, 104]⟩ : ByteArray)].map Value.string).toArray 9 (0, 0))).right
  have R13 := Ran.new R12 (.cells ([(⟨#[46, 104]⟩ : ByteArray)].map Value.string).toArray 9 (0, 0))
  clear hS R' hb S11
  go_wp2_with fail
  refine ht.out.mono ?_
  rintro e w14 ⟨rfl, B'⟩
  have S14 := Lib.hid (S12.out.below B')
  have R14 := Below.trans R13 (B'.mono (Nat.zero_le _))
  clear B' ht S12
  have hb := lbare_calls fb mb 8 (Aw.F7 b1 k1 n2 c2 n3 c3 n4 c4 n5 c5 n6 c6 n7 c7 n8 c8) HT7.out (by decide) (⟨#[42, 47, 102]⟩ : ByteArray) w14 R HG.out (by decide) (by rw [Aw.found23]; decide) S14.out
  rw [Aw.ans3] at hb
  have hb := Lib.hid hb
  go_wp2_with fail
  refine hb.out.mono ?_
  rintro e w15 ⟨⟨p, c, rfl, hS⟩, R'⟩
  have R15 := Below.trans R14 R'
  have ht := texts_calls [(⟨#[100, 47, 102]⟩ : ByteArray), (⟨#[108, 47, 102]⟩ : ByteArray)] p (some ⟨w15.heap.size, 0, none⟩) c 2 _ (strsAt_arr (hS.old (.cells ([(⟨#[100, 47, 102]⟩ : ByteArray), (⟨#[108, 47, 102]⟩ : ByteArray)].map Value.string).toArray 9 (0, 0)))) (lit_strs w15 [(⟨#[100, 47, 102]⟩ : ByteArray), (⟨#[108, 47, 102]⟩ : ByteArray)] (by decide))
  have ht := Lib.hid ht
  have S15 := Lib.hid (hS.old (.cells ([(⟨#[100, 47, 102]⟩ : ByteArray), (⟨#[108, 47, 102]⟩ : ByteArray)].map Value.string).toArray 9 (0, 0))).right
  have R16 := Ran.new R15 (.cells ([(⟨#[100, 47, 102]⟩ : ByteArray), (⟨#[108, 47, 102]⟩ : ByteArray)].map Value.string).toArray 9 (0, 0))
  clear hS R' hb S14
  go_wp2_with fail
  refine ht.out.mono ?_
  rintro e w17 ⟨rfl, B'⟩
  have S17 := Lib.hid (S15.out.below B')
  have R17 := Below.trans R16 (B'.mono (Nat.zero_le _))
  clear B' ht S15
  have hb := lbare_calls fb mb 8 (Aw.F7 b1 k1 n2 c2 n3 c3 n4 c4 n5 c5 n6 c6 n7 c7 n8 c8) HT7.out (by decide) (⟨#[42, 47]⟩ : ByteArray) w17 R HG.out (by decide) (by rw [Aw.found24]; decide) S17.out
  rw [Aw.ans4] at hb
  have hb := Lib.hid hb
  go_wp2_with fail
  refine hb.out.mono ?_
  rintro e w18 ⟨⟨p, c, rfl, hS⟩, R'⟩
  have R18 := Below.trans R17 R'
  have ht := texts_calls [(⟨#[100, 47]⟩ : ByteArray), (⟨#[108, 47]⟩ : ByteArray)] p (some ⟨w18.heap.size, 0, none⟩) c 2 _ (strsAt_arr (hS.old (.cells ([(⟨#[100, 47]⟩ : ByteArray), (⟨#[108, 47]⟩ : ByteArray)].map Value.string).toArray 9 (0, 0)))) (lit_strs w18 [(⟨#[100, 47]⟩ : ByteArray), (⟨#[108, 47]⟩ : ByteArray)] (by decide))
  have ht := Lib.hid ht
  have S18 := Lib.hid (hS.old (.cells ([(⟨#[100, 47]⟩ : ByteArray), (⟨#[108, 47]⟩ : ByteArray)].map Value.string).toArray 9 (0, 0))).right
  have R19 := Ran.new R18 (.cells ([(⟨#[100, 47]⟩ : ByteArray), (⟨#[108, 47]⟩ : ByteArray)].map Value.string).toArray 9 (0, 0))
  clear hS R' hb S17
  go_wp2_with fail
  refine ht.out.mono ?_
  rintro e w20 ⟨rfl, B'⟩
  have S20 := Lib.hid (S18.out.below B')
  have R20 := Below.trans R19 (B'.mono (Nat.zero_le _))
  clear B' ht S18
  have hb := lbare_calls fb mb 8 (Aw.F7 b1 k1 n2 c2 n3 c3 n4 c4 n5 c5 n6 c6 n7 c7 n8 c8) HT7.out (by decide) (⟨#[100, 47, 42, 47, 103]⟩ : ByteArray) w20 R HG.out (by decide) (by rw [Aw.found25]; decide) S20.out
  rw [Aw.ans5] at hb
  have hb := Lib.hid hb
  go_wp2_with fail
  refine hb.out.mono ?_
  rintro e w21 ⟨⟨p, c, rfl, hS⟩, R'⟩
  have R21 := Below.trans R20 R'
  have ht := texts_calls [(⟨#[100, 47, 101, 47, 103]⟩ : ByteArray)] p (some ⟨w21.heap.size, 0, none⟩) c 1 _ (strsAt_arr (hS.old (.cells ([(⟨#[100, 47, 101, 47, 103]⟩ : ByteArray)].map Value.string).toArray 9 (0, 0)))) (lit_strs w21 [(⟨#[100, 47, 101, 47, 103]⟩ : ByteArray)] (by decide))
  have ht := Lib.hid ht
  have S21 := Lib.hid (hS.old (.cells ([(⟨#[100, 47, 101, 47, 103]⟩ : ByteArray)].map Value.string).toArray 9 (0, 0))).right
  have R22 := Ran.new R21 (.cells ([(⟨#[100, 47, 101, 47, 103]⟩ : ByteArray)].map Value.string).toArray 9 (0, 0))
  clear hS R' hb S20
  go_wp2_with fail
  refine ht.out.mono ?_
  rintro e w23 ⟨rfl, B'⟩
  have S23 := Lib.hid (S21.out.below B')
  have R23 := Below.trans R22 (B'.mono (Nat.zero_le _))
  clear B' ht S21
  have hb := lbare_calls fb mb 8 (Aw.F7 b1 k1 n2 c2 n3 c3 n4 c4 n5 c5 n6 c6 n7 c7 n8 c8) HT7.out (by decide) (⟨#[120, 42]⟩ : ByteArray) w23 R HG.out (by decide) (by rw [Aw.found26]; decide) S23.out
  rw [Aw.ans6] at hb
  have hb := Lib.hid hb
  go_wp2_with fail
  refine hb.out.mono ?_
  rintro e w24 ⟨⟨p, c, rfl, hS⟩, R'⟩
  have R24 := Below.trans R23 R'
  have ht := texts_calls [(⟨#[120, 42]⟩ : ByteArray)] p (some ⟨w24.heap.size, 0, none⟩) c 1 _ (strsAt_arr (hS.old (.cells ([(⟨#[120, 42]⟩ : ByteArray)].map Value.string).toArray 9 (0, 0)))) (lit_strs w24 [(⟨#[120, 42]⟩ : ByteArray)] (by decide))
  have ht := Lib.hid ht
  have S24 := Lib.hid (hS.old (.cells ([(⟨#[120, 42]⟩ : ByteArray)].map Value.string).toArray 9 (0, 0))).right
  have R25 := Ran.new R24 (.cells ([(⟨#[120, 42]⟩ : ByteArray)].map Value.string).toArray 9 (0, 0))
  clear hS R' hb S23
  go_wp2_with fail
  refine ht.out.mono ?_
  rintro e w26 ⟨rfl, B'⟩
  have S26 := Lib.hid (S24.out.below B')
  have R26 := Below.trans R25 (B'.mono (Nat.zero_le _))
  clear B' ht S24
  have hO := Lib.hid (of_calls (⟨#[42]⟩ : ByteArray) true w26 (by decide))
  go_wp2_with fail
  refine hO.out.mono ?_
  rintro e w27 ⟨pa, pc, rfl, C1, B'⟩
  have hE := expand_at fb mb 8 (Aw.F7 b1 k1 n2 c2 n3 c3 n4 c4 n5 c5 n6 c6 n7 c7 n8 c8) HT7.out (by decide) 1 Hd.i64_1 (markL (bs (⟨#[42]⟩ : ByteArray)) true) pa pc w27 R HG.out C1 (by decide) (by
    have : (foundO (nmC (Aw.F7 b1 k1 n2 c2 n3 c3 n4 c4 n5 c5 n6 c6 n7 c7 n8 c8) 1) (okC (Aw.F7 b1 k1 n2 c2 n3 c3 n4 c4 n5 c5 n6 c6 n7 c7 n8 c8) 1) (markL (bs (⟨#[42]⟩ : ByteArray)) true)).length ≤ 1000000 := Aw.found7_le b1 k1 n2 c2 n3 c3 n4 c4 n5 c5 n6 c6 n7 c7 n8 c8
    exact this) (S26.out.below B')
  rw [Aw.ans7] at hE
  have hE := Lib.hid hE
  have R27 := Below.trans R26 (B'.mono (Nat.zero_le _))
  clear B' C1 hO S26
  go_wp2_with fail
  refine hE.out.mono ?_
  rintro e w28 ⟨⟨p, c, rfl, hS⟩, R'⟩
  have R28 := Below.trans R27 R'
  have ht := texts_calls [(⟨#[42]⟩ : ByteArray)] p (some ⟨w28.heap.size, 0, none⟩) c 1 _ (strsAt_arr (hS.old (.cells ([(⟨#[42]⟩ : ByteArray)].map Value.string).toArray 9 (0, 0)))) (lit_strs w28 [(⟨#[42]⟩ : ByteArray)] (by decide))
  have ht := Lib.hid ht
  have S28 := Lib.hid ((hS.old (.cells ([(⟨#[42]⟩ : ByteArray)].map Value.string).toArray 9 (0, 0))).right).right
  have R29 := Ran.new R28 (.cells ([(⟨#[42]⟩ : ByteArray)].map Value.string).toArray 9 (0, 0))
  clear hS R' hE
  go_wp2_with fail
  refine ht.out.mono ?_
  rintro e w30 ⟨rfl, B'⟩
  have S30 := Lib.hid (S28.out.below B')
  have R30 := Below.trans R29 (B'.mono (Nat.zero_le _))
  clear B' ht S28
  go_wp2_with fail
  go_ret
  exact ⟨⟨rfl, S30.out⟩, R30⟩
end Go.Proofs.YtndjgeohkfenfaaGreatDoor.Globs

