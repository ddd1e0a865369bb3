/- 'class', walked. -/
import Derived.Test.YtjbdpahdhlmanaaGlF
namespace Go.Proofs.Ytjbdpahdhlmanaa.Globs
open Go.RowKit Go.Proofs.Ytjbdpahdhlmanaa Go.Proofs.Ytjbdpahdhlmanaa.Hp
set_option linter.unusedVariables false

def RgsPost (rs : List Rg) (w : World) (e : Ending) (w' : World) : Prop := ∃ b rc, e = .returned (.slice (some ⟨b, 0, none⟩) rs.length rc) ∧ RgAt w' (some ⟨b, 0, none⟩) rs ∧ Below w.heap.size w w'
theorem rgAt_new {w : World} {b : Nat} {cur : Array Value} {T : Nat} (rs : List Rg) (hl : rs.length ≤ 100) (hb : w.heap[b]? = some (.cells cur T (0, 0))) (h : ∀ j (h : j < rs.length), cur[j * 2]? = some (.int .u8 rs[j].1.toNat) ∧ cur[j * 2 + 1]? = some (.int .u8 rs[j].2.toNat)) : RgAt w (some ⟨b, 0, none⟩) rs :=
  ⟨by omega, fun j hj => ⟨b, 0, rfl, (Array.getElem?_eq_some_iff.1 hb).1, by rw [Nat.zero_add, cell_at hb]; exact (h j hj).1, by rw [Nat.zero_add, cell_at hb]; exact (h j hj).2⟩⟩
theorem class_alnum (w : World) : Calls Try.prog 51 #[.string ⟨#[97, 108, 110, 117, 109]⟩] w (RgsPost [(48, 57), (65, 90), (97, 122)] w) := by
  go_enter Try.func51, Try.ntmps51
  go_wp2
  go_ret
  refine ⟨w.heap.size, 3, rfl, rgAt_new (T := 67) _ (by simp) (heap_alloc_new w _) (fun j hj => ?_), (Below.refl _ _).alloc (Nat.le_refl _) _⟩
  match j, hj with
  | 0, _ => exact ⟨rfl, rfl⟩
  | 1, _ => exact ⟨rfl, rfl⟩
  | 2, _ => exact ⟨rfl, rfl⟩
theorem class_alpha (w : World) : Calls Try.prog 51 #[.string ⟨#[97, 108, 112, 104, 97]⟩] w (RgsPost [(65, 90), (97, 122)] w) := by
  go_enter Try.func51, Try.ntmps51
  go_wp2
  go_ret
  refine ⟨w.heap.size, 2, rfl, rgAt_new (T := 67) _ (by simp) (heap_alloc_new w _) (fun j hj => ?_), (Below.refl _ _).alloc (Nat.le_refl _) _⟩
  match j, hj with
  | 0, _ => exact ⟨rfl, rfl⟩
  | 1, _ => exact ⟨rfl, rfl⟩
theorem class_blank (w : World) : Calls Try.prog 51 #[.string ⟨#[98, 108, 97, 110, 107]⟩] w (RgsPost [(9, 9), (32, 32)] w) := by
  go_enter Try.func51, Try.ntmps51
  go_wp2
  go_ret
  refine ⟨w.heap.size, 2, rfl, rgAt_new (T := 67) _ (by simp) (heap_alloc_new w _) (fun j hj => ?_), (Below.refl _ _).alloc (Nat.le_refl _) _⟩
  match j, hj with
  | 0, _ => exact ⟨rfl, rfl⟩
  | 1, _ => exact ⟨rfl, rfl⟩
theorem class_space (w : World) : Calls Try.prog 51 #[.string ⟨#[115, 112, 97, 99, 101]⟩] w (RgsPost [(9, 13), (32, 32)] w) := by
  go_enter Try.func51, Try.ntmps51
  go_wp2
  go_ret
  refine ⟨w.heap.size, 2, rfl, rgAt_new (T := 67) _ (by simp) (heap_alloc_new w _) (fun j hj => ?_), (Below.refl _ _).alloc (Nat.le_refl _) _⟩
  match j, hj with
  | 0, _ => exact ⟨rfl, rfl⟩
  | 1, _ => exact ⟨rfl, rfl⟩
theorem class_cntrl (w : World) : Calls Try.prog 51 #[.string ⟨#[99, 110, 116, 114, 108]⟩] w (RgsPost [(0, 31), (127, 127)] w) := by
  go_enter Try.func51, Try.ntmps51
  go_wp2
  go_ret
  refine ⟨w.heap.size, 2, rfl, rgAt_new (T := 67) _ (by simp) (heap_alloc_new w _) (fun j hj => ?_), (Below.refl _ _).alloc (Nat.le_refl _) _⟩
  match j, hj with
  | 0, _ => exact ⟨rfl, rfl⟩
  | 1, _ => exact ⟨rfl, rfl⟩
theorem class_print (w : World) : Calls Try.prog 51 #[.string ⟨#[112, 114, 105, 110, 116]⟩] w (RgsPost [(32, 126)] w) := by
  go_enter Try.func51, Try.ntmps51
  go_wp2
  go_ret
  refine ⟨w.heap.size, 1, rfl, rgAt_new (T := 67) _ (by simp) (heap_alloc_new w _) (fun j hj => ?_), (Below.refl _ _).alloc (Nat.le_refl _) _⟩
  match j, hj with
  | 0, _ => exact ⟨rfl, rfl⟩
theorem class_graph (w : World) : Calls Try.prog 51 #[.string ⟨#[103, 114, 97, 112, 104]⟩] w (RgsPost [(33, 126)] w) := by
  go_enter Try.func51, Try.ntmps51
  go_wp2
  go_ret
  refine ⟨w.heap.size, 1, rfl, rgAt_new (T := 67) _ (by simp) (heap_alloc_new w _) (fun j hj => ?_), (Below.refl _ _).alloc (Nat.le_refl _) _⟩
  match j, hj with
  | 0, _ => exact ⟨rfl, rfl⟩
theorem class_digit (w : World) : Calls Try.prog 51 #[.string ⟨#[100, 105, 103, 105, 116]⟩] w (RgsPost [(48, 57)] w) := by
  go_enter Try.func51, Try.ntmps51
  go_wp2
  go_ret
  refine ⟨w.heap.size, 1, rfl, rgAt_new (T := 67) _ (by simp) (heap_alloc_new w _) (fun j hj => ?_), (Below.refl _ _).alloc (Nat.le_refl _) _⟩
  match j, hj with
  | 0, _ => exact ⟨rfl, rfl⟩
theorem class_xdigit (w : World) : Calls Try.prog 51 #[.string ⟨#[120, 100, 105, 103, 105, 116]⟩] w (RgsPost [(48, 57), (65, 70), (97, 102)] w) := by
  go_enter Try.func51, Try.ntmps51
  go_wp2
  go_ret
  refine ⟨w.heap.size, 3, rfl, rgAt_new (T := 67) _ (by simp) (heap_alloc_new w _) (fun j hj => ?_), (Below.refl _ _).alloc (Nat.le_refl _) _⟩
  match j, hj with
  | 0, _ => exact ⟨rfl, rfl⟩
  | 1, _ => exact ⟨rfl, rfl⟩
  | 2, _ => exact ⟨rfl, rfl⟩
theorem class_lower (w : World) : Calls Try.prog 51 #[.string ⟨#[108, 111, 119, 101, 114]⟩] w (RgsPost [(97, 122)] w) := by
  go_enter Try.func51, Try.ntmps51
  go_wp2
  go_ret
  refine ⟨w.heap.size, 1, rfl, rgAt_new (T := 67) _ (by simp) (heap_alloc_new w _) (fun j hj => ?_), (Below.refl _ _).alloc (Nat.le_refl _) _⟩
  match j, hj with
  | 0, _ => exact ⟨rfl, rfl⟩
theorem class_upper (w : World) : Calls Try.prog 51 #[.string ⟨#[117, 112, 112, 101, 114]⟩] w (RgsPost [(65, 90)] w) := by
  go_enter Try.func51, Try.ntmps51
  go_wp2
  go_ret
  refine ⟨w.heap.size, 1, rfl, rgAt_new (T := 67) _ (by simp) (heap_alloc_new w _) (fun j hj => ?_), (Below.refl _ _).alloc (Nat.le_refl _) _⟩
  match j, hj with
  | 0, _ => exact ⟨rfl, rfl⟩
theorem class_punct (w : World) : Calls Try.prog 51 #[.string ⟨#[112, 117, 110, 99, 116]⟩] w (RgsPost [(33, 47), (58, 64), (91, 96), (123, 126)] w) := by
  go_enter Try.func51, Try.ntmps51
  go_wp2
  go_ret
  refine ⟨w.heap.size, 4, rfl, rgAt_new (T := 67) _ (by simp) (heap_alloc_new w _) (fun j hj => ?_), (Below.refl _ _).alloc (Nat.le_refl _) _⟩
  match j, hj with
  | 0, _ => exact ⟨rfl, rfl⟩
  | 1, _ => exact ⟨rfl, rfl⟩
  | 2, _ => exact ⟨rfl, rfl⟩
  | 3, _ => exact ⟨rfl, rfl⟩
theorem bs_eq {s : ByteArray} {l : List UInt8} (h : bs s = l) : s = ⟨l.toArray⟩ := by
  subst h; cases s; simp [bs]
theorem class_yes (name : ByteArray) (w : World) (h : classL (bs name) ≠ []) : Calls Try.prog 51 #[.string name] w (RgsPost (classL (bs name)) w) := by
  by_cases h_alnum : bs name = [97, 108, 110, 117, 109]
  · rw [h_alnum, bs_eq h_alnum]; exact class_alnum w
  by_cases h_alpha : bs name = [97, 108, 112, 104, 97]
  · rw [h_alpha, bs_eq h_alpha]; exact class_alpha w
  by_cases h_blank : bs name = [98, 108, 97, 110, 107]
  · rw [h_blank, bs_eq h_blank]; exact class_blank w
  by_cases h_space : bs name = [115, 112, 97, 99, 101]
  · rw [h_space, bs_eq h_space]; exact class_space w
  by_cases h_cntrl : bs name = [99, 110, 116, 114, 108]
  · rw [h_cntrl, bs_eq h_cntrl]; exact class_cntrl w
  by_cases h_print : bs name = [112, 114, 105, 110, 116]
  · rw [h_print, bs_eq h_print]; exact class_print w
  by_cases h_graph : bs name = [103, 114, 97, 112, 104]
  · rw [h_graph, bs_eq h_graph]; exact class_graph w
  by_cases h_digit : bs name = [100, 105, 103, 105, 116]
  · rw [h_digit, bs_eq h_digit]; exact class_digit w
  by_cases h_xdigit : bs name = [120, 100, 105, 103, 105, 116]
  · rw [h_xdigit, bs_eq h_xdigit]; exact class_xdigit w
  by_cases h_lower : bs name = [108, 111, 119, 101, 114]
  · rw [h_lower, bs_eq h_lower]; exact class_lower w
  by_cases h_upper : bs name = [117, 112, 112, 101, 114]
  · rw [h_upper, bs_eq h_upper]; exact class_upper w
  by_cases h_punct : bs name = [112, 117, 110, 99, 116]
  · rw [h_punct, bs_eq h_punct]; exact class_punct w
  refine absurd ?_ h
  unfold classL
  rw [if_neg h_alnum, if_neg h_alpha, if_neg h_blank, if_neg h_space, if_neg h_cntrl, if_neg h_print, if_neg h_graph, if_neg h_digit, if_neg h_xdigit, if_neg h_lower, if_neg h_upper, if_neg h_punct]
theorem classL_no {n : List UInt8} (h : classL n = []) : n ≠ [97, 108, 110, 117, 109] ∧ n ≠ [97, 108, 112, 104, 97] ∧ n ≠ [98, 108, 97, 110, 107] ∧ n ≠ [115, 112, 97, 99, 101] ∧ n ≠ [99, 110, 116, 114, 108] ∧ n ≠ [112, 114, 105, 110, 116] ∧ n ≠ [103, 114, 97, 112, 104] ∧ n ≠ [100, 105, 103, 105, 116] ∧ n ≠ [120, 100, 105, 103, 105, 116] ∧ n ≠ [108, 111, 119, 101, 114] ∧ n ≠ [117, 112, 112, 101, 114] ∧ n ≠ [112, 117, 110, 99, 116] := by
  refine ⟨?_, ?_, ?_, ?_, ?_, ?_, ?_, ?_, ?_, ?_, ?_, ?_⟩ <;> (rintro rfl; revert h; decide)
set_option maxHeartbeats 1000000 in
theorem class_no (name : ByteArray) (w : World) (h : classL (bs name) = []) : Calls Try.prog 51 #[.string name] w fun e w' => e = .returned (.slice none 0 0) ∧ w = w' := by
  obtain ⟨h0, h1, h2, h3, h4, h5, h6, h7, h8, h9, h10, h11⟩ := classL_no h
  have e0 : (name.toList == [97, 108, 110, 117, 109]) = false := by rw [beq_eq_false_iff_ne]; exact fun hh => h0 (by rw [← hh]; simp [bs, ByteArray.toList_eq])
  have e1 : (name.toList == [97, 108, 112, 104, 97]) = false := by rw [beq_eq_false_iff_ne]; exact fun hh => h1 (by rw [← hh]; simp [bs, ByteArray.toList_eq])
  have e2 : (name.toList == [98, 108, 97, 110, 107]) = false := by rw [beq_eq_false_iff_ne]; exact fun hh => h2 (by rw [← hh]; simp [bs, ByteArray.toList_eq])
  have e3 : (name.toList == [115, 112, 97, 99, 101]) = false := by rw [beq_eq_false_iff_ne]; exact fun hh => h3 (by rw [← hh]; simp [bs, ByteArray.toList_eq])
  have e4 : (name.toList == [99, 110, 116, 114, 108]) = false := by rw [beq_eq_false_iff_ne]; exact fun hh => h4 (by rw [← hh]; simp [bs, ByteArray.toList_eq])
  have e5 : (name.toList == [112, 114, 105, 110, 116]) = false := by rw [beq_eq_false_iff_ne]; exact fun hh => h5 (by rw [← hh]; simp [bs, ByteArray.toList_eq])
  have e6 : (name.toList == [103, 114, 97, 112, 104]) = false := by rw [beq_eq_false_iff_ne]; exact fun hh => h6 (by rw [← hh]; simp [bs, ByteArray.toList_eq])
  have e7 : (name.toList == [100, 105, 103, 105, 116]) = false := by rw [beq_eq_false_iff_ne]; exact fun hh => h7 (by rw [← hh]; simp [bs, ByteArray.toList_eq])
  have e8 : (name.toList == [120, 100, 105, 103, 105, 116]) = false := by rw [beq_eq_false_iff_ne]; exact fun hh => h8 (by rw [← hh]; simp [bs, ByteArray.toList_eq])
  have e9 : (name.toList == [108, 111, 119, 101, 114]) = false := by rw [beq_eq_false_iff_ne]; exact fun hh => h9 (by rw [← hh]; simp [bs, ByteArray.toList_eq])
  have e10 : (name.toList == [117, 112, 112, 101, 114]) = false := by rw [beq_eq_false_iff_ne]; exact fun hh => h10 (by rw [← hh]; simp [bs, ByteArray.toList_eq])
  have e11 : (name.toList == [112, 117, 110, 99, 116]) = false := by rw [beq_eq_false_iff_ne]; exact fun hh => h11 (by rw [← hh]; simp [bs, ByteArray.toList_eq])
  clear h h0 h1 h2 h3 h4 h5 h6 h7 h8 h9 h10 h11
  go_enter Try.func51, Try.ntmps51
  go_wp2
  go_ret
  exact ⟨rfl, rfl⟩
end Go.Proofs.Ytjbdpahdhlmanaa.Globs
