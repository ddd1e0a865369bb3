/- awake walked. (printed by gen_staw.py) -/
import Derived.Test.YtlmjidandjemjaaGreatDoorStTl
namespace Go.Proofs.YtlmjidandjemjaaGreatDoor.State
open Go.RowKit Go.Proofs.YtlmjidandjemjaaGreatDoor Go.Proofs.YtlmjidandjemjaaGreatDoor.Hp Go.Proofs.YtlmjidandjemjaaGreatDoor.Undo
set_option linter.unusedVariables false
attribute [local go_sem] Oper.semAt_some

abbrev bA : ByteArray := ⟨#[97]⟩
abbrev bB : ByteArray := ⟨#[98]⟩
abbrev bC : ByteArray := ⟨#[99]⟩
abbrev bX : ByteArray := ⟨#[120]⟩
abbrev bY : ByteArray := ⟨#[121]⟩
abbrev b1 : ByteArray := ⟨#[49]⟩
abbrev b2 : ByteArray := ⟨#[50]⟩
abbrev b0 : ByteArray := ⟨#[]⟩
abbrev bINT : ByteArray := ⟨#[73, 78, 84]⟩
abbrev bEXIT : ByteArray := ⟨#[69, 88, 73, 84]⟩
def am1 : Now := (n0.setO 10 97 true).2
def am2 : Now := (am1.setP 10 bX b1).2
def am3 : Now := (am2.markP 10 bX false true).2
def am4 : Now := (am3.setG 10 [bA, bB, bC]).2
def am5 : Now := (am4.shiftP 10 2).2
def am6 : Now := (am5.setT 10 bINT b0).2
def am7 : Now := (am6.setT 10 bEXIT bY).2
abbrev o3 : Obj := .cells #[.string bA, .string bB, .string bC] 9 (0, 0)
theorem am1o : OOk n0.s.o := by unfold OOk; decide
theorem am2V : am2.s.V = putM (fun _ => none) bX ⟨b1, true, true, false⟩ := by rfl
theorem am2ok : VOk am2.s := by
  intro k hk
  rw [am2V] at hk
  have h : k = bX := by
    unfold putM at hk
    by_cases c : k = bX
    · exact c
    · rw [if_neg c] at hk; cases hk
  subst h
  decide
theorem am2env {ks : List ByteArray} (h : KeysOf am2.s.V ks) : envL am2.s ks = [⟨#[120, 61, 49]⟩] := by
  rw [am2V] at h
  have := keys_one h
  subst this
  decide
theorem am3s : am3.setP 10 bX b2 = (26, am3) := by
  have h1 : isName bX = true := by decide
  have h2 : ¬ (4096 < b2.size) := by decide
  have h3 : (am3.s.var bX).fix = true := by decide
  unfold Now.setP
  rw [if_neg (by rw [h1]; decide), if_neg h2, if_pos h3]
theorem am5l : am5.s.l = [bC] := by rfl
theorem am5s : am5.shiftP 10 2 = (1, am5) := by
  unfold Now.shiftP
  rw [am5l, if_pos (Or.inr (by decide))]
theorem am7ms : am7.ms = [] := by rfl
theorem am7T (k : ByteArray) (h : (am7.s.T k).isSome = true) : k = bEXIT ∨ k = bINT := by
  have hT : am7.s.T = putM (putM (fun _ => none) bINT b0) bEXIT bY := by rfl
  rw [hT] at h
  unfold putM at h
  by_cases c : k = bEXIT
  · exact .inl c
  · rw [if_neg c] at h
    by_cases c2 : k = bINT
    · exact .inr c2
    · rw [if_neg c2] at h; cases h
theorem keys_two {α : Type} {M : ByteArray → Option α} {a b : ByteArray} (hM : ∀ k, (M k).isSome = true → k = a ∨ k = b) {ks : List ByteArray} (h : KeysOf M ks) : ks.length ≤ 2 := by
  obtain ⟨hr, hm⟩ := h
  match ks, hr, hm with
  | [], _, _ => simp
  | [_], _, _ => simp
  | [_, _], _, _ => simp
  | x :: y :: z :: t, hr, hm =>
    exfalso
    have e1 := hM x ((hm x).1 (by simp))
    have e2 := hM y ((hm y).1 (by simp))
    have e3 := hM z ((hm z).1 (by simp))
    have p1 := List.pairwise_cons.1 hr
    have p2 := List.pairwise_cons.1 p1.2
    have l1 := p1.1 y (by simp)
    have l2 := p1.1 z (by simp)
    have l3 := p2.1 z (by simp)
    rcases e1 with rfl | rfl <;> rcases e2 with rfl | rfl <;> rcases e3 with rfl | rfl <;> first | exact List.lt_irrefl _ l1 | exact List.lt_irrefl _ l2 | exact List.lt_irrefl _ l3
set_option maxRecDepth 100000 in
set_option maxHeartbeats 8000000 in
theorem awake_calls (w : World) (R : Hp) (hg : Glob R) (h : Sat w R) :
    Calls Tryz.prog 9 #[] w fun e w' => (e = .returned (.bool true) ∧ Sat w' R) ∧ Ran w w' := by
  have HB := Lib.hid (begun_calls 10 (by decide) (by decide) w R h)
  have HG := Lib.hid hg
  clear h hg
  go_enter Tryz.func9, Tryz.ntmps9
  go_wp2_with fail
  refine HB.out.mono ?_
  rintro e w1 ⟨⟨K, hm, -, rfl, S1⟩, R1⟩
  have HM := Lib.hid hm
  have S1 := Lib.hid S1
  have R1 := Lib.hid R1
  clear hm HB

  have HC := SetOption_calls K n0 97 true w1 (R) am1o HG.out (by decide) (by decide) S1.out
  rw [HM.out] at HC
  have HC := Lib.hid HC
  go_wp2_with fail
  refine HC.out.mono ?_
  rintro e w2 ⟨⟨rfl, S⟩, Rn⟩
  have S2 : Hid (SAt K w2 am1 (R)) := Lib.hid S
  have R2 := Lib.hid (Below.trans R1.out Rn)
  clear S Rn S1 R1 HC
  have HC := Set_calls K am1 bX b1 w2 (R) (by decide) (by decide) (by decide) (by decide) S2.out
  rw [HM.out] at HC
  have HC := Lib.hid HC
  go_wp2_with fail
  refine HC.out.mono ?_
  rintro e w3 ⟨⟨rfl, S⟩, Rn⟩
  have S3 : Hid (SAt K w3 am2 (R)) := Lib.hid S
  have R3 := Lib.hid (Below.trans R2.out Rn)
  clear S Rn S2 R2 HC
  have HC := Lib.hid (Environ_calls K am2 w3 (R) (by decide) am2ok S3.out)
  go_wp2_with fail
  refine HC.out.mono ?_
  rintro e w4 ⟨⟨lp, lc, ks, rfl, hk, S⟩, Rn⟩
  rw [am2env hk] at S ⊢
  have S4 : Hid (SAt K w4 am2 (arr 9 1 lp 1 lc [.string ⟨#[120, 61, 49]⟩] * R)) := Lib.hid S
  have R4 := Lib.hid (Below.trans R3.out Rn)
  clear S Rn S3 R3 HC hk
  rw [show ([(⟨#[120, 61, 49]⟩ : ByteArray)] : List ByteArray).length = 1 from rfl]
  have HC := Mark_calls K am2 bX false true w4 (arr 9 1 lp 1 lc [.string ⟨#[120, 61, 49]⟩] * R) (by decide) (by decide) (by decide) S4.out
  rw [HM.out] at HC
  have HC := Lib.hid HC
  go_wp2_with fail
  refine HC.out.mono ?_
  rintro e w5 ⟨⟨rfl, S⟩, Rn⟩
  have S5 : Hid (SAt K w5 am3 (arr 9 1 lp 1 lc [.string ⟨#[120, 61, 49]⟩] * R)) := Lib.hid S
  have R5 := Lib.hid (Below.trans R4.out Rn)
  clear S Rn S4 R4 HC
  have HC := Set_calls K am3 bX b2 w5 (arr 9 1 lp 1 lc [.string ⟨#[120, 61, 49]⟩] * R) (by decide) (by decide) (by decide) (by decide) S5.out
  rw [HM.out, am3s] at HC
  have HC := Lib.hid HC
  go_wp2_with fail
  refine HC.out.mono ?_
  rintro e w6 ⟨⟨rfl, S⟩, Rn⟩
  have S6 : Hid (SAt K w6 am3 (arr 9 1 lp 1 lc [.string ⟨#[120, 61, 49]⟩] * R)) := Lib.hid S
  have R6 := Lib.hid (Below.trans R5.out Rn)
  clear S Rn S5 R5 HC
  have SA := S6.out.alloc o3
  have RA := Lib.hid (Ran.new R6.out o3)
  have HC := SetArgs_calls K am3 [bA, bB, bC] (some ⟨w6.heap.size, 0, none⟩) 3 (w6.alloc o3) _ (by decide) (row3 (heap_alloc_new w6 o3)) (by decide) (by decide) SA
  rw [HM.out] at HC
  have HC := Lib.hid HC
  clear SA
  go_wp2_with fail
  refine HC.out.mono ?_
  rintro e w7 ⟨⟨rfl, S⟩, Rn⟩
  have S7 : Hid (SAt K w7 am4 (arr 9 1 lp 1 lc [.string ⟨#[120, 61, 49]⟩] * R)) := Lib.hid (SAt.right S)
  have R7 := Lib.hid (Below.trans RA.out Rn)
  clear S Rn S6 R6 RA HC
  have HC := Shift_calls K am4 2 w7 (arr 9 1 lp 1 lc [.string ⟨#[120, 61, 49]⟩] * R) (by decide) (by decide) (by decide) S7.out
  rw [HM.out] at HC
  have HC := Lib.hid HC
  go_wp2_with fail
  refine HC.out.mono ?_
  rintro e w8 ⟨⟨rfl, S⟩, Rn⟩
  have S8 : Hid (SAt K w8 am5 (arr 9 1 lp 1 lc [.string ⟨#[120, 61, 49]⟩] * R)) := Lib.hid S
  have R8 := Lib.hid (Below.trans R7.out Rn)
  clear S Rn S7 R7 HC
  have HC := Shift_calls K am5 2 w8 (arr 9 1 lp 1 lc [.string ⟨#[120, 61, 49]⟩] * R) (by decide) (by decide) (by decide) S8.out
  rw [HM.out, am5s] at HC
  have HC := Lib.hid HC
  go_wp2_with fail
  refine HC.out.mono ?_
  rintro e w9 ⟨⟨rfl, S⟩, Rn⟩
  have S9 : Hid (SAt K w9 am5 (arr 9 1 lp 1 lc [.string ⟨#[120, 61, 49]⟩] * R)) := Lib.hid S
  have R9 := Lib.hid (Below.trans R8.out Rn)
  clear S Rn S8 R8 HC
  have HC := Args_calls K am5 w9 (arr 9 1 lp 1 lc [.string ⟨#[120, 61, 49]⟩] * R) (by decide) S9.out
  have HC := Lib.hid HC
  go_wp2_with fail
  refine HC.out.mono ?_
  rintro e w10 ⟨⟨ap, ac, rfl, S⟩, Rn⟩
  rw [am5l] at S ⊢
  have S10 : Hid (SAt K w10 am5 (arr 9 1 ap 1 ac [.string bC] * (arr 9 1 lp 1 lc [.string ⟨#[120, 61, 49]⟩] * R))) := Lib.hid S
  have R10 := Lib.hid (Below.trans R9.out (Rn.mono (Nat.zero_le _)))
  clear S Rn S9 R9 HC
  rw [show ([bC] : List ByteArray).length = 1 from rfl]
  have HC := SetTrap_calls K am5 bINT b0 (by decide) w10 (arr 9 1 ap 1 ac [.string bC] * (arr 9 1 lp 1 lc [.string ⟨#[120, 61, 49]⟩] * R)) (by decide) (by decide) (by decide) S10.out
  rw [HM.out] at HC
  have HC := Lib.hid HC
  go_wp2_with fail
  refine HC.out.mono ?_
  rintro e w11 ⟨⟨rfl, S⟩, Rn⟩
  have S11 : Hid (SAt K w11 am6 (arr 9 1 ap 1 ac [.string bC] * (arr 9 1 lp 1 lc [.string ⟨#[120, 61, 49]⟩] * R))) := Lib.hid S
  have R11 := Lib.hid (Below.trans R10.out Rn)
  clear S Rn S10 R10 HC
  have HC := SetTrap_calls K am6 bEXIT bY (by decide) w11 (arr 9 1 ap 1 ac [.string bC] * (arr 9 1 lp 1 lc [.string ⟨#[120, 61, 49]⟩] * R)) (by decide) (by decide) (by decide) S11.out
  rw [HM.out] at HC
  have HC := Lib.hid HC
  go_wp2_with fail
  refine HC.out.mono ?_
  rintro e w12 ⟨⟨rfl, S⟩, Rn⟩
  have S12 : Hid (SAt K w12 am7 (arr 9 1 ap 1 ac [.string bC] * (arr 9 1 lp 1 lc [.string ⟨#[120, 61, 49]⟩] * R))) := Lib.hid S
  have R12 := Lib.hid (Below.trans R11.out Rn)
  clear S Rn S11 R11 HC
  have HC := Enter_calls K am7 w12 (arr 9 1 ap 1 ac [.string bC] * (arr 9 1 lp 1 lc [.string ⟨#[120, 61, 49]⟩] * R)) (by decide) (by decide) (fun ks hk => ⟨Nat.le_trans (keys_two am7T hk) (by decide), fun k hkm => by rcases am7T k ((hk.2 k).1 hkm) with rfl | rfl <;> decide⟩) S12.out
  unfold EnterSays at HC
  rw [HM.out] at HC
  have HC := Lib.hid HC
  go_wp2_with fail
  refine HC.out.mono ?_
  rintro e w13 ⟨⟨ks, hk, rfl, S⟩, Rn⟩
  obtain ⟨hz, ⟨hg1, hg2⟩, -, -⟩ := enterL_free 10 ks am7 am7ms
  have hE : (Now.enterL 10 ks am7).2.s.T bEXIT = none := hg1 bEXIT ((hk.2 bEXIT).2 (by decide)) (by decide)
  have hI : (Now.enterL 10 ks am7).2.s.T bINT = some b0 := by rw [hg2 bINT (.inr (by decide))]; decide
  obtain ⟨m8, hm8⟩ : ∃ m8, m8 = (Now.enterL 10 ks am7).2 := ⟨_, rfl⟩
  rw [← hm8] at S hE hI
  have S13 : Hid (SAt K w13 m8 (arr 9 1 ap 1 ac [.string bC] * (arr 9 1 lp 1 lc [.string ⟨#[120, 61, 49]⟩] * R))) := Lib.hid S
  have R13 := Lib.hid (Below.trans R12.out Rn)
  clear S Rn S12 R12 HC hk hz hg1 hg2 hm8
  have HC := Trap_calls K m8 bINT w13 (arr 9 1 ap 1 ac [.string bC] * (arr 9 1 lp 1 lc [.string ⟨#[120, 61, 49]⟩] * R)) (by decide) S13.out
  rw [hI] at HC
  have HC := Lib.hid HC
  go_wp2_with fail
  refine HC.out.mono ?_
  rintro e w14 ⟨rfl, Rn⟩
  have S14 := Lib.hid (S13.out.below Rn)
  have R14 := Lib.hid (Below.trans R13.out (Rn.mono (Nat.zero_le _)))
  clear Rn S13 R13 HC
  have HC := Trap_calls K m8 bEXIT w14 (arr 9 1 ap 1 ac [.string bC] * (arr 9 1 lp 1 lc [.string ⟨#[120, 61, 49]⟩] * R)) (by decide) S14.out
  rw [hE] at HC
  have HC := Lib.hid HC
  go_wp2_with fail
  refine HC.out.mono ?_
  rintro e w15 ⟨rfl, Rn⟩
  have S15 := Lib.hid (S14.out.below Rn)
  have R15 := Lib.hid (Below.trans R14.out (Rn.mono (Nat.zero_le _)))
  clear Rn S14 R14 HC
  rw [show ((none : Option ByteArray).isSome) = false from rfl, show ((some b0 : Option ByteArray).isSome) = true from rfl] at *
  obtain ⟨ab, ao, rfl, hca⟩ := row1_cell S15.out.rest
  obtain ⟨lb, lo, rfl, hcl⟩ := row1_cell S15.out.rest.right
  have hfin := S15.out.rest.right.right
  have Hfin := Lib.hid hfin
  clear hfin S15 hI hE
  go_wp2_with fail
  go_ret
  exact ⟨⟨rfl, Hfin.out⟩, R15.out⟩
end Go.Proofs.YtlmjidandjemjaaGreatDoor.State
