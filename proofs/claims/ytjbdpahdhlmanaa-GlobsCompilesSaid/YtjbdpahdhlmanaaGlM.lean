/- The document's 'class', walked. -/
import Derived.Test.YtjbdpahdhlmanaaGlG
namespace Go.Proofs.Ytjbdpahdhlmanaa.Globs
open Go.RowKit Go.Proofs.Ytjbdpahdhlmanaa Go.Proofs.Ytjbdpahdhlmanaa.Hp
set_option linter.unusedVariables false

def RCPost (rs : List Rg) (w : World) (e : Ending) (w' : World) : Prop := ∃ b rc, e = .returned (.tuple #[.slice (some ⟨b, 0, none⟩) rs.length rc, .bool true]) ∧ RgAt w' (some ⟨b, 0, none⟩) rs ∧ Below w.heap.size w w'
theorem below_four (w : World) (o1 o2 o3 o4 o5 : Obj) : Below w.heap.size w (((((w.alloc o1).alloc o2).alloc o3).alloc o4).alloc o5) :=
  (((((Below.refl _ w).alloc (Nat.le_refl _) _).alloc (by simp) _).alloc (by simp; omega) _).alloc (by simp; omega) _).alloc (by simp; omega) _
theorem rclass_alnum (w : World) : Calls Try.prog 43 #[.string ⟨#[97, 108, 110, 117, 109]⟩] w (RCPost [(48, 57), (65, 90), (97, 122)] w) := by
  go_enter Try.func43, Try.ntmps43
  go_wp2
  go_ret2
  refine ⟨w.heap.size + 4, 3, rfl, rgAt_new (T := 66) _ (by simp) (by rw [show w.heap.size + 4 = ((((w.alloc _).alloc _).alloc _).alloc _).heap.size by simp]; exact heap_alloc_new _ _) (fun j hj => ?_), below_four _ _ _ _ _ _⟩
  match j, hj with
  | 0, _ => exact ⟨rfl, rfl⟩
  | 1, _ => exact ⟨rfl, rfl⟩
  | 2, _ => exact ⟨rfl, rfl⟩
theorem rclass_alpha (w : World) : Calls Try.prog 43 #[.string ⟨#[97, 108, 112, 104, 97]⟩] w (RCPost [(65, 90), (97, 122)] w) := by
  go_enter Try.func43, Try.ntmps43
  go_wp2
  go_ret2
  refine ⟨w.heap.size + 4, 2, rfl, rgAt_new (T := 66) _ (by simp) (by rw [show w.heap.size + 4 = ((((w.alloc _).alloc _).alloc _).alloc _).heap.size by simp]; exact heap_alloc_new _ _) (fun j hj => ?_), below_four _ _ _ _ _ _⟩
  match j, hj with
  | 0, _ => exact ⟨rfl, rfl⟩
  | 1, _ => exact ⟨rfl, rfl⟩
theorem rclass_blank (w : World) : Calls Try.prog 43 #[.string ⟨#[98, 108, 97, 110, 107]⟩] w (RCPost [(9, 9), (32, 32)] w) := by
  go_enter Try.func43, Try.ntmps43
  go_wp2
  go_ret2
  refine ⟨w.heap.size + 4, 2, rfl, rgAt_new (T := 66) _ (by simp) (by rw [show w.heap.size + 4 = ((((w.alloc _).alloc _).alloc _).alloc _).heap.size by simp]; exact heap_alloc_new _ _) (fun j hj => ?_), below_four _ _ _ _ _ _⟩
  match j, hj with
  | 0, _ => exact ⟨rfl, rfl⟩
  | 1, _ => exact ⟨rfl, rfl⟩
theorem rclass_space (w : World) : Calls Try.prog 43 #[.string ⟨#[115, 112, 97, 99, 101]⟩] w (RCPost [(9, 13), (32, 32)] w) := by
  go_enter Try.func43, Try.ntmps43
  go_wp2
  go_ret2
  refine ⟨w.heap.size + 4, 2, rfl, rgAt_new (T := 66) _ (by simp) (by rw [show w.heap.size + 4 = ((((w.alloc _).alloc _).alloc _).alloc _).heap.size by simp]; exact heap_alloc_new _ _) (fun j hj => ?_), below_four _ _ _ _ _ _⟩
  match j, hj with
  | 0, _ => exact ⟨rfl, rfl⟩
  | 1, _ => exact ⟨rfl, rfl⟩
theorem rclass_cntrl (w : World) : Calls Try.prog 43 #[.string ⟨#[99, 110, 116, 114, 108]⟩] w (RCPost [(0, 31), (127, 127)] w) := by
  go_enter Try.func43, Try.ntmps43
  go_wp2
  go_ret2
  refine ⟨w.heap.size + 4, 2, rfl, rgAt_new (T := 66) _ (by simp) (by rw [show w.heap.size + 4 = ((((w.alloc _).alloc _).alloc _).alloc _).heap.size by simp]; exact heap_alloc_new _ _) (fun j hj => ?_), below_four _ _ _ _ _ _⟩
  match j, hj with
  | 0, _ => exact ⟨rfl, rfl⟩
  | 1, _ => exact ⟨rfl, rfl⟩
theorem rclass_print (w : World) : Calls Try.prog 43 #[.string ⟨#[112, 114, 105, 110, 116]⟩] w (RCPost [(32, 126)] w) := by
  go_enter Try.func43, Try.ntmps43
  go_wp2
  go_ret2
  refine ⟨w.heap.size + 4, 1, rfl, rgAt_new (T := 66) _ (by simp) (by rw [show w.heap.size + 4 = ((((w.alloc _).alloc _).alloc _).alloc _).heap.size by simp]; exact heap_alloc_new _ _) (fun j hj => ?_), below_four _ _ _ _ _ _⟩
  match j, hj with
  | 0, _ => exact ⟨rfl, rfl⟩
theorem rclass_graph (w : World) : Calls Try.prog 43 #[.string ⟨#[103, 114, 97, 112, 104]⟩] w (RCPost [(33, 126)] w) := by
  go_enter Try.func43, Try.ntmps43
  go_wp2
  go_ret2
  refine ⟨w.heap.size + 4, 1, rfl, rgAt_new (T := 66) _ (by simp) (by rw [show w.heap.size + 4 = ((((w.alloc _).alloc _).alloc _).alloc _).heap.size by simp]; exact heap_alloc_new _ _) (fun j hj => ?_), below_four _ _ _ _ _ _⟩
  match j, hj with
  | 0, _ => exact ⟨rfl, rfl⟩
theorem rclass_digit (w : World) : Calls Try.prog 43 #[.string ⟨#[100, 105, 103, 105, 116]⟩] w (RCPost [(48, 57)] w) := by
  go_enter Try.func43, Try.ntmps43
  go_wp2
  go_ret2
  refine ⟨w.heap.size + 4, 1, rfl, rgAt_new (T := 66) _ (by simp) (by rw [show w.heap.size + 4 = ((((w.alloc _).alloc _).alloc _).alloc _).heap.size by simp]; exact heap_alloc_new _ _) (fun j hj => ?_), below_four _ _ _ _ _ _⟩
  match j, hj with
  | 0, _ => exact ⟨rfl, rfl⟩
theorem rclass_xdigit (w : World) : Calls Try.prog 43 #[.string ⟨#[120, 100, 105, 103, 105, 116]⟩] w (RCPost [(48, 57), (65, 70), (97, 102)] w) := by
  go_enter Try.func43, Try.ntmps43
  go_wp2
  go_ret2
  refine ⟨w.heap.size + 4, 3, rfl, rgAt_new (T := 66) _ (by simp) (by rw [show w.heap.size + 4 = ((((w.alloc _).alloc _).alloc _).alloc _).heap.size by simp]; exact heap_alloc_new _ _) (fun j hj => ?_), below_four _ _ _ _ _ _⟩
  match j, hj with
  | 0, _ => exact ⟨rfl, rfl⟩
  | 1, _ => exact ⟨rfl, rfl⟩
  | 2, _ => exact ⟨rfl, rfl⟩
theorem rclass_lower (w : World) : Calls Try.prog 43 #[.string ⟨#[108, 111, 119, 101, 114]⟩] w (RCPost [(97, 122)] w) := by
  go_enter Try.func43, Try.ntmps43
  go_wp2
  go_ret2
  refine ⟨w.heap.size + 4, 1, rfl, rgAt_new (T := 66) _ (by simp) (by rw [show w.heap.size + 4 = ((((w.alloc _).alloc _).alloc _).alloc _).heap.size by simp]; exact heap_alloc_new _ _) (fun j hj => ?_), below_four _ _ _ _ _ _⟩
  match j, hj with
  | 0, _ => exact ⟨rfl, rfl⟩
theorem rclass_upper (w : World) : Calls Try.prog 43 #[.string ⟨#[117, 112, 112, 101, 114]⟩] w (RCPost [(65, 90)] w) := by
  go_enter Try.func43, Try.ntmps43
  go_wp2
  go_ret2
  refine ⟨w.heap.size + 4, 1, rfl, rgAt_new (T := 66) _ (by simp) (by rw [show w.heap.size + 4 = ((((w.alloc _).alloc _).alloc _).alloc _).heap.size by simp]; exact heap_alloc_new _ _) (fun j hj => ?_), below_four _ _ _ _ _ _⟩
  match j, hj with
  | 0, _ => exact ⟨rfl, rfl⟩
theorem rclass_punct (w : World) : Calls Try.prog 43 #[.string ⟨#[112, 117, 110, 99, 116]⟩] w (RCPost [(33, 47), (58, 64), (91, 96), (123, 126)] w) := by
  go_enter Try.func43, Try.ntmps43
  go_wp2
  go_ret2
  refine ⟨w.heap.size + 4, 4, rfl, rgAt_new (T := 66) _ (by simp) (by rw [show w.heap.size + 4 = ((((w.alloc _).alloc _).alloc _).alloc _).heap.size by simp]; exact heap_alloc_new _ _) (fun j hj => ?_), below_four _ _ _ _ _ _⟩
  match j, hj with
  | 0, _ => exact ⟨rfl, rfl⟩
  | 1, _ => exact ⟨rfl, rfl⟩
  | 2, _ => exact ⟨rfl, rfl⟩
  | 3, _ => exact ⟨rfl, rfl⟩
theorem rclass_yes (name : ByteArray) (w : World) (h : classL (bs name) ≠ []) : Calls Try.prog 43 #[.string name] w (RCPost (classL (bs name)) w) := by
  by_cases h_alnum : bs name = [97, 108, 110, 117, 109]
  · rw [h_alnum, bs_eq h_alnum]; exact rclass_alnum w
  by_cases h_alpha : bs name = [97, 108, 112, 104, 97]
  · rw [h_alpha, bs_eq h_alpha]; exact rclass_alpha w
  by_cases h_blank : bs name = [98, 108, 97, 110, 107]
  · rw [h_blank, bs_eq h_blank]; exact rclass_blank w
  by_cases h_space : bs name = [115, 112, 97, 99, 101]
  · rw [h_space, bs_eq h_space]; exact rclass_space w
  by_cases h_cntrl : bs name = [99, 110, 116, 114, 108]
  · rw [h_cntrl, bs_eq h_cntrl]; exact rclass_cntrl w
  by_cases h_print : bs name = [112, 114, 105, 110, 116]
  · rw [h_print, bs_eq h_print]; exact rclass_print w
  by_cases h_graph : bs name = [103, 114, 97, 112, 104]
  · rw [h_graph, bs_eq h_graph]; exact rclass_graph w
  by_cases h_digit : bs name = [100, 105, 103, 105, 116]
  · rw [h_digit, bs_eq h_digit]; exact rclass_digit w
  by_cases h_xdigit : bs name = [120, 100, 105, 103, 105, 116]
  · rw [h_xdigit, bs_eq h_xdigit]; exact rclass_xdigit w
  by_cases h_lower : bs name = [108, 111, 119, 101, 114]
  · rw [h_lower, bs_eq h_lower]; exact rclass_lower w
  by_cases h_upper : bs name = [117, 112, 112, 101, 114]
  · rw [h_upper, bs_eq h_upper]; exact rclass_upper w
  by_cases h_punct : bs name = [112, 117, 110, 99, 116]
  · rw [h_punct, bs_eq h_punct]; exact rclass_punct w
  refine absurd ?_ h
  unfold classL
  rw [if_neg h_alnum, if_neg h_alpha, if_neg h_blank, if_neg h_space, if_neg h_cntrl, if_neg h_print, if_neg h_graph, if_neg h_digit, if_neg h_xdigit, if_neg h_lower, if_neg h_upper, if_neg h_punct]
set_option maxHeartbeats 1000000 in
theorem rclass_no (name : ByteArray) (w : World) (h : classL (bs name) = []) : Calls Try.prog 43 #[.string name] w fun e w' => e = .returned (.tuple #[.slice none 0 0, .bool false]) ∧ Below w.heap.size w w' := by
  obtain ⟨h0, h1, h2, h3, h4, h5, h6, h7, h8, h9, h10, h11⟩ := classL_no h
  have e0 : (name.toList == [97, 108, 110, 117, 109]) = false := by rw [beq_eq_false_iff_ne]; exact fun hh => h0 (by rw [← hh]; simp [bs, ByteArray.toList_eq])
  have e1 : (name.toList == [97, 108, 112, 104, 97]) = false := by rw [beq_eq_false_iff_ne]; exact fun hh => h1 (by rw [← hh]; simp [bs, ByteArray.toList_eq])
  have e2 : (name.toList == [98, 108, 97, 110, 107]) = false := by rw [beq_eq_false_iff_ne]; exact fun hh => h2 (by rw [← hh]; simp [bs, ByteArray.toList_eq])
  have e3 : (name.toList == [115, 112, 97, 99, 101]) = false := by rw [beq_eq_false_iff_ne]; exact fun hh => h3 (by rw [← hh]; simp [bs, ByteArray.toList_eq])
  have e4 : (name.toList == [99, 110, 116, 114, 108]) = false := by rw [beq_eq_false_iff_ne]; exact fun hh => h4 (by rw [← hh]; simp [bs, ByteArray.toList_eq])
  have e5 : (name.toList == [112, 114, 105, 110, 116]) = false := by rw [beq_eq_false_iff_ne]; exact fun hh => h5 (by rw [← hh]; simp [bs, ByteArray.toList_eq])
  have e6 : (name.toList == [103, 114, 97, 112, 104]) = false := by rw [beq_eq_false_iff_ne]; exact fun hh => h6 (by rw [← hh]; simp [bs, ByteArray.toList_eq])
  have e7 : (name.toList == [100, 105, 103, 105, 116]) = false := by rw [beq_eq_false_iff_ne]; exact fun hh => h7 (by rw [← hh]; simp [bs, ByteArray.toList_eq])
  have e8 : (name.toList == [120, 100, 105, 103, 105, 116]) = false := by rw [beq_eq_false_iff_ne]; exact fun hh => h8 (by rw [← hh]; simp [bs, ByteArray.toList_eq])
  have e9 : (name.toList == [108, 111, 119, 101, 114]) = false := by rw [beq_eq_false_iff_ne]; exact fun hh => h9 (by rw [← hh]; simp [bs, ByteArray.toList_eq])
  have e10 : (name.toList == [117, 112, 112, 101, 114]) = false := by rw [beq_eq_false_iff_ne]; exact fun hh => h10 (by rw [← hh]; simp [bs, ByteArray.toList_eq])
  have e11 : (name.toList == [112, 117, 110, 99, 116]) = false := by rw [beq_eq_false_iff_ne]; exact fun hh => h11 (by rw [← hh]; simp [bs, ByteArray.toList_eq])
  clear h h0 h1 h2 h3 h4 h5 h6 h7 h8 h9 h10 h11
  go_enter Try.func43, Try.ntmps43
  go_wp2
  go_ret2
  exact ⟨rfl, ((((Below.refl _ w).alloc (Nat.le_refl _) _).alloc (by simp) _).alloc (by simp; omega) _).alloc (by simp; omega) _⟩

theorem bareL_one {t : List Ch} {i : Nat} {b : UInt8} (h : i < t.length) : bareL (t.drop i) [b] = (t[i].b == b && !t[i].q) := by
  rw [List.drop_eq_getElem_cons h]; simp [bareL]
theorem bareL_out {t : List Ch} {i : Nat} {b : UInt8} (h : t.length ≤ i) : bareL (t.drop i) [b] = false := by
  rw [List.drop_eq_nil_of_le h]; rfl
def BPost (v : Bool) (w : World) (e : Ending) (w' : World) : Prop := e = .returned (.bool v) ∧ w = w'
set_option maxHeartbeats 1000000 in
theorem is_calls (t : List Ch) (i : Nat) (b : UInt8) (ao : Option Addr) (cap : Nat) (w : World) (h : CharsAt w ao cap t) (hm : t.length ≤ 100000) :
    Calls Try.prog 33 #[.slice ao t.length cap, .int .i64 i, .int .u8 b.toNat] w (BPost (bareL (t.drop i) [b]) w) := by
  by_cases hi : i < t.length
  · rw [bareL_one hi]
    have hlt : (i : Int) < t.length := by omega
    have hi0 : (0 : Int) ≤ i := by omega
    obtain ⟨hlc, hcc, hx⟩ := h
    obtain ⟨tb, o, rfl, htb, h0, h1⟩ := hx i hi
    obtain ⟨c, hc⟩ : ∃ c, c = t[i] := ⟨_, rfl⟩
    rw [← hc] at h0 h1 ⊢
    obtain ⟨cb, cq⟩ := c
    clear hx hc
    have e1 : ((cb.toNat : Int) == (b.toNat : Int)) = (cb == b) := u8_beq _ _
    cases cq
    all_goals
      simp only at h0 h1
      go_enter Try.func33, Try.ntmps33
      go_wp2_with fail
      go_ret
      exact ⟨by simp, rfl⟩
  · rw [bareL_out (by omega)]
    have hlt : ¬ ((i : Int) < t.length) := by omega
    clear h
    go_enter Try.func33, Try.ntmps33
    go_wp2_with fail
    go_ret
    exact ⟨rfl, rfl⟩
end Go.Proofs.Ytjbdpahdhlmanaa.Globs
