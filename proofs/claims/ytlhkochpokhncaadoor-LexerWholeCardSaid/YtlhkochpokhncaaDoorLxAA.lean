/- Reserved walked, the program's and the document's; awake. -/
import Derived.Test.YtlhkochpokhncaaDoorLxZ
namespace Go.Proofs.YtlhkochpokhncaaDoor.Lexer
open Go.RowKit Go.Proofs.YtlhkochpokhncaaDoor Go.Proofs.YtlhkochpokhncaaDoor.Hp
set_option linter.unusedVariables false
attribute [local go_sem] Oper.semAt_some

def resL : List Bytes := [[105, 102], [116, 104, 101, 110], [101, 108, 115, 101], [101, 108, 105, 102], [102, 105], [100, 111], [100, 111, 110, 101], [119, 104, 105, 108, 101], [117, 110, 116, 105, 108], [102, 111, 114], [99, 97, 115, 101], [101, 115, 97, 99], [105, 110], [123], [125], [33]]
def resB (x : ByteArray) : Bool := decide (bs x ∈ resL)
set_option maxRecDepth 100000 in
set_option maxHeartbeats 8000000 in
theorem res_calls (x : ByteArray) (w : World) : Calls Tryd.prog 13 #[.string x] w (BPost (resB x) w) := by
  unfold resB
  by_cases hin : bs x ∈ resL
  · rw [decide_eq_true hin]
    simp only [resL, List.mem_cons, List.not_mem_nil, or_false] at hin
    rcases hin with hin | hin | hin | hin | hin | hin | hin | hin | hin | hin | hin | hin | hin | hin | hin | hin
    all_goals
      have hin2 := bs_eq ‹_›
      clear hin
      subst hin2
      go_enter Tryd.func13, Tryd.ntmps13
      go_wp2_with fail
      go_ret
      exact ⟨rfl, Below.refl _ _⟩
  · rw [decide_eq_false hin]
    have n0 := ne_lit (x := x) (l := [105, 102]) (fun e => hin (by rw [e]; decide))
    have n1 := ne_lit (x := x) (l := [116, 104, 101, 110]) (fun e => hin (by rw [e]; decide))
    have n2 := ne_lit (x := x) (l := [101, 108, 115, 101]) (fun e => hin (by rw [e]; decide))
    have n3 := ne_lit (x := x) (l := [101, 108, 105, 102]) (fun e => hin (by rw [e]; decide))
    have n4 := ne_lit (x := x) (l := [102, 105]) (fun e => hin (by rw [e]; decide))
    have n5 := ne_lit (x := x) (l := [100, 111]) (fun e => hin (by rw [e]; decide))
    have n6 := ne_lit (x := x) (l := [100, 111, 110, 101]) (fun e => hin (by rw [e]; decide))
    have n7 := ne_lit (x := x) (l := [119, 104, 105, 108, 101]) (fun e => hin (by rw [e]; decide))
    have n8 := ne_lit (x := x) (l := [117, 110, 116, 105, 108]) (fun e => hin (by rw [e]; decide))
    have n9 := ne_lit (x := x) (l := [102, 111, 114]) (fun e => hin (by rw [e]; decide))
    have n10 := ne_lit (x := x) (l := [99, 97, 115, 101]) (fun e => hin (by rw [e]; decide))
    have n11 := ne_lit (x := x) (l := [101, 115, 97, 99]) (fun e => hin (by rw [e]; decide))
    have n12 := ne_lit (x := x) (l := [105, 110]) (fun e => hin (by rw [e]; decide))
    have n13 := ne_lit (x := x) (l := [123]) (fun e => hin (by rw [e]; decide))
    have n14 := ne_lit (x := x) (l := [125]) (fun e => hin (by rw [e]; decide))
    have n15 := ne_lit (x := x) (l := [33]) (fun e => hin (by rw [e]; decide))
    clear hin
    go_enter Tryd.func13, Tryd.ntmps13
    go_wp2_with fail
    go_ret
    exact ⟨rfl, Below.refl _ _⟩
def resV : Array Value := #[.string ⟨#[105, 102]⟩, .string ⟨#[116, 104, 101, 110]⟩, .string ⟨#[101, 108, 115, 101]⟩, .string ⟨#[101, 108, 105, 102]⟩, .string ⟨#[102, 105]⟩, .string ⟨#[100, 111]⟩, .string ⟨#[100, 111, 110, 101]⟩, .string ⟨#[119, 104, 105, 108, 101]⟩, .string ⟨#[117, 110, 116, 105, 108]⟩, .string ⟨#[102, 111, 114]⟩, .string ⟨#[99, 97, 115, 101]⟩, .string ⟨#[101, 115, 97, 99]⟩, .string ⟨#[105, 110]⟩, .string ⟨#[123]⟩, .string ⟨#[125]⟩, .string ⟨#[33]⟩]
theorem res_len : resL.length = 16 := rfl
theorem resV_at (k : Nat) (hk : k < resL.length) : resV[k]? = some (.string ⟨resL[k].toArray⟩) := by
  match k, hk with
  | 0, _ => rfl
  | 1, _ => rfl
  | 2, _ => rfl
  | 3, _ => rfl
  | 4, _ => rfl
  | 5, _ => rfl
  | 6, _ => rfl
  | 7, _ => rfl
  | 8, _ => rfl
  | 9, _ => rfl
  | 10, _ => rfl
  | 11, _ => rfl
  | 12, _ => rfl
  | 13, _ => rfl
  | 14, _ => rfl
  | 15, _ => rfl
  | n + 16, h => exact absurd h (by rw [res_len]; omega)
def RsRel (x : ByteArray) (b : Nat) (w : World) (g : Nat) (kv : Value) (wr : World) : Prop :=
  ∃ k : Nat, kv = .int .i64 (k : Int) ∧ k + g = 16 ∧ resB x = decide (bs x ∈ resL.drop k) ∧ Below w.heap.size w wr ∧ (∀ j, j < 16 → wr.cell? ⟨b, j, none⟩ = resV[j]?)
set_option maxRecDepth 100000 in
set_option maxHeartbeats 8000000 in
theorem rres_calls (x : ByteArray) (w : World) : Calls Tryd.prog 14 #[.string x] w (BPost (resB x) w) := by
  go_enter Tryd.func14, Tryd.ntmps14
  go_wp2_with fail
  go_loopg [4] 16 (RsRel x w.heap.size w)
  case atStart => exact ⟨0, rfl, rfl, by rw [List.drop_zero, resB], Below.alloc (Below.refl _ _) (Nat.le_refl _) _, fun j _ => by rw [cell_at (block_new rfl)]; rfl⟩
  case round =>
    obtain ⟨k, rfl, hg, hO, hB, hC⟩ := hrel
    have hk0 : (0 : Int) ≤ k := by omega
    by_cases hk : k < resL.length
    · have hkI : (k : Int) < 16 := by have : k < 16 := hk; omega
      obtain ⟨o, ho⟩ : ∃ o : ByteArray, o = ⟨resL[k].toArray⟩ := ⟨_, rfl⟩
      have hob : bs o = resL[k] := by rw [ho]
      have hc : wr.cell? ⟨w.heap.size, k, none⟩ = some (.string o) := (hC k hk).trans ((resV_at k hk).trans (by rw [ho]))
      have hdr := List.drop_eq_getElem_cons hk
      have heB : (o.toList == x.toList) = (bs o == bs x) := by rw [ByteArray.toList_eq, ByteArray.toList_eq]
      rw [hdr, ← hob] at hO
      by_cases he : bs o = bs x
      · have heT : (o.toList == x.toList) = true := by rw [heB, he]; exact beq_self_eq_true _
        have hv : resB x = true := by rw [hO, he]; exact decide_eq_true (List.mem_cons_self ..)
        have HV := Lib.hid hv
        clear hO ho hob hC hg hk hdr heB he hv
        go_wp2_with fail
        go_ret
        exact ⟨by rw [HV.out]; rfl, hB⟩
      · have heT : (o.toList == x.toList) = false := by rw [heB]; exact beq_eq_false_iff_ne.2 he
        have hnx : resB x = decide (bs x ∈ resL.drop (k + 1)) := by
          rw [hO, decide_eq_decide, List.mem_cons]
          exact ⟨fun h => h.resolve_left (fun e => he e.symm), .inr⟩
        have HNX := Lib.hid (And.intro hnx hC)
        have Hg := Lib.hid hg
        clear hO ho hob hC hg hk hdr heB he hnx
        go_wp2_with fail
        go_roundg (gk - 1)
        case measure => have := Hg.out; omega
        case rel => exact ⟨k + 1, by go_num, by have := Hg.out; omega, HNX.out.1, hB, HNX.out.2⟩
    · have hk17 : k = 16 := by rw [res_len] at hk; omega
      subst hk17
      have hv : resB x = false := by rw [hO]; rfl
      have HV := Lib.hid hv
      clear hO hg hC hv hk
      go_wp2_with fail
      go_ret
      exact ⟨by rw [HV.out]; rfl, hB⟩
abbrev aw1 : ByteArray := ⟨#[50, 62, 102, 32, 50, 32, 62, 102, 32, 120, 50, 62, 102]⟩
abbrev aw2 : ByteArray := ⟨#[36, 40, 97, 32, 40, 98, 41, 32, 34, 41, 34, 41, 120, 38]⟩
abbrev aw3 : ByteArray := ⟨#[97, 32, 34, 98]⟩
theorem t1 : allP aw1 = ([⟨3, ⟨#[50]⟩, 0, 1⟩, ⟨2, ⟨#[62]⟩, 1, 2⟩, ⟨4, ⟨#[102]⟩, 2, 3⟩, ⟨4, ⟨#[50]⟩, 4, 5⟩, ⟨2, ⟨#[62]⟩, 6, 7⟩, ⟨4, ⟨#[102]⟩, 7, 8⟩, ⟨4, ⟨#[120, 50]⟩, 9, 11⟩, ⟨2, ⟨#[62]⟩, 11, 12⟩, ⟨4, ⟨#[102]⟩, 12, 13⟩], (0, 0)) := by kernel_rfl
theorem t2 : allP aw2 = ([⟨4, ⟨#[36, 40, 97, 32, 40, 98, 41, 32, 34, 41, 34, 41, 120]⟩, 0, 13⟩, ⟨2, ⟨#[38]⟩, 13, 14⟩], (0, 0)) := by kernel_rfl
theorem t3 : allP aw3 = ([⟨4, ⟨#[97]⟩, 0, 1⟩], (2, 30)) := by kernel_rfl
theorem t4 : docA ⟨#[120, 10, 9, 69, 10, 121]⟩ 0 ⟨#[69]⟩ true = ([120, 10], (5, 0)) := by kernel_rfl
def awT1 : List Tok := [⟨3, ⟨#[50]⟩, 0, 1⟩, ⟨2, ⟨#[62]⟩, 1, 2⟩, ⟨4, ⟨#[102]⟩, 2, 3⟩, ⟨4, ⟨#[50]⟩, 4, 5⟩, ⟨2, ⟨#[62]⟩, 6, 7⟩, ⟨4, ⟨#[102]⟩, 7, 8⟩, ⟨4, ⟨#[120, 50]⟩, 9, 11⟩, ⟨2, ⟨#[62]⟩, 11, 12⟩, ⟨4, ⟨#[102]⟩, 12, 13⟩]
def awT2 : List Tok := [⟨4, ⟨#[36, 40, 97, 32, 40, 98, 41, 32, 34, 41, 34, 41, 120]⟩, 0, 13⟩, ⟨2, ⟨#[38]⟩, 13, 14⟩]
theorem tokA_at {w : World} {p : Option Addr} {cap : Nat} {l : List Tok} {R : Hp} (h : Sat w (tokA p cap l * R)) (hl : 0 < l.length) : ∃ b o, p = some ⟨b, o, none⟩ ∧ l.length ≤ cap ∧ ∀ j (hj : j < (tks l).length), w.cell? ⟨b, o + j, none⟩ = some (tks l)[j] := by
  have h2 := h.arr_len.2.1
  obtain ⟨b, o, rfl⟩ := h.arr_addr (by omega)
  exact ⟨b, o, rfl, h2, fun j hj => h.arr_cell j hj⟩
set_option maxRecDepth 100000 in
set_option maxHeartbeats 8000000 in
theorem awake_calls (w : World) : Calls Tryd.prog 9 #[] w (BPost true w) := by
  have A1 := Lib.hid (fun w => all_calls aw1 (by decide) w)
  have A2 := Lib.hid (fun w => all_calls aw2 (by decide) w)
  have A3 := Lib.hid (fun w => all_calls aw3 (by decide) w)
  have A4 := Lib.hid (fun w => doc_calls ⟨#[120, 10, 9, 69, 10, 121]⟩ ⟨#[69]⟩ 0 true w (by decide) (by decide))
  go_enter Tryd.func9, Tryd.ntmps9
  go_wp2_with fail
  refine (A1.out _).mono ?_
  rintro e w1 ⟨⟨p1, q1, rfl, hS1⟩, hR1⟩
  rw [t1] at hS1 ⊢
  have hB1 := hR1.whole hS1
  have hS1 : Sat w1 (tokA p1 q1 awT1 * keep w) := hS1
  have HS1 := Lib.hid hS1
  clear hS1 hR1
  simp only [List.length_cons, List.length_nil]
  go_wp2_with fail
  refine (A2.out _).mono ?_
  rintro e w2 ⟨⟨p2, q2, rfl, hS2⟩, hR2⟩
  rw [t2] at hS2 ⊢
  have hB2 := hR2.whole hS2
  have hS2 : Sat w2 (tokA p2 q2 awT2 * keep w1) := hS2
  have HS2 := Lib.hid hS2
  clear hS2 hR2
  simp only [List.length_cons, List.length_nil]
  go_wp2_with fail
  refine (A3.out _).mono ?_
  rintro e w3 ⟨⟨p3, q3, rfl, hS3⟩, hR3⟩
  rw [t3] at hS3 ⊢
  have hB3 := hR3.whole hS3
  clear hS3 hR3
  simp only [List.length_cons, List.length_nil]
  go_wp2_with fail
  refine (A4.out _).mono ?_
  rintro e w4 ⟨rfl, hB4⟩
  rw [t4]
  dsimp only
  have hS14 := ((HS1.out.below hB2).below hB3).below hB4
  have hS24 := (HS2.out.below hB3).below hB4
  obtain ⟨b1, o1, rfl, hc1, f1⟩ := tokA_at hS14 (by decide)
  obtain ⟨b2, o2, rfl, hc2, f2⟩ := tokA_at hS24 (by decide)
  have c10 : w4.cell? ⟨b1, o1, none⟩ = some (.int .i64 3) := f1 0 (by decide)
  have c13 : w4.cell? ⟨b1, o1 + 12, none⟩ = some (.int .i64 4) := f1 12 (by decide)
  have c21 : w4.cell? ⟨b2, o2 + 5, none⟩ = some (.string ⟨#[38]⟩) := f2 5 (by decide)
  have hc1I : (9 : Int) ≤ q1 := by have : 9 ≤ q1 := hc1; omega
  have hc2I : (2 : Int) ≤ q2 := by have : 2 ≤ q2 := hc2; omega
  have hB := ((hB1.trans (Below.mono (h := hB2) hB1.size)).trans (Below.mono (h := hB3) (Nat.le_trans hB1.size hB2.size))).trans (Below.mono (h := hB4) (Nat.le_trans (Nat.le_trans hB1.size hB2.size) hB3.size))
  clear hS14 hS24 f1 f2 hc1 hc2 hB1 hB2 hB3 hB4 HS1 HS2 A1 A2 A3 A4
  go_wp2_with fail
  refine (res_calls ⟨#[102, 105]⟩ w4).mono ?_
  rintro e w5 ⟨rfl, hB5⟩
  rw [show resB ⟨#[102, 105]⟩ = true by decide]
  have hB6 := hB.trans (Below.mono (h := hB5) hB.size)
  clear hB hB5
  go_wp2_with fail
  refine (res_calls ⟨#[102]⟩ w5).mono ?_
  rintro e w6 ⟨rfl, hB7⟩
  rw [show resB ⟨#[102]⟩ = false by decide]
  have hB8 := hB6.trans (Below.mono (h := hB7) hB6.size)
  clear hB6 hB7
  go_wp2_with fail
  go_ret
  exact ⟨rfl, hB8⟩
end Go.Proofs.YtlhkochpokhncaaDoor.Lexer
